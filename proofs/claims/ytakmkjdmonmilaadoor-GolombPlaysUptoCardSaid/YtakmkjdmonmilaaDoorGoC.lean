import Derived.Test.YtakmkjdmonmilaaDoorGoB
import Derived.Test.YtakmkjdmonmilaaDoorGoP
import Derived.Test.YtakmkjdmonmilaaDoorBitsV
namespace Go.Proofs.YtakmkjdmonmilaaDoor
set_option linter.unusedSimpArgs false
set_option linter.unusedVariables false
open Go Go.RowKit

/-! golomb: Get. -/
/-- What golomb.Get comes to: a number whose form stands there; or none has its form there, and nothing is taken. -/
def GGetPost (c : Ctx) (R : List HP) (g : Nat) (bs : List Nat) (at_ k wide : Nat) (e : Ending) (w' : World) : Prop :=
  (∃ n : Nat, n < 2 ^ wide ∧ hasForm bs at_ n k wide ∧ e = .returned (.tuple #[.int .i64 (n : Nat), .int .i64 0]) ∧ St c (reader g bs (at_ + (gform n k wide).length) :: R) w') ∨
  (∃ x : Int, (x = 23 ∨ x = 24) ∧ (∀ n, n < 2 ^ wide → ¬ hasForm bs at_ n k wide) ∧ e = .returned (.tuple #[.int .i64 0, .int .i64 x]) ∧ St c (reader g bs at_ :: R) w')

/-- The try's reader, beside the block that was read. -/
theorem St.tryOpen {c : Ctx} {R : List HP} {g : Nat} {bs : List Nat} {at_ : Nat} {v : Value} {w : World}
    (h : St c (blk g [v, .int .i64 (at_ : Nat)] 89 :: row 5 1 v bs.length (bytesV bs) :: R) w) :
    St c (readerV w.heap.size v bs at_ :: blk g [v, .int .i64 (at_ : Nat)] 89 :: R) (w.alloc (.cells #[v, .int .i64 (at_ : Nat)] 89)) :=
  St.unstar (h.swap.alloc [v, .int .i64 (at_ : Nat)] 89)

/-- The try is given up: the first reader is as it was. -/
theorem St.tryDrop {c : Ctx} {R : List HP} {g g2 : Nat} {bs : List Nat} {at_ a2 : Nat} {v : Value} {w : World}
    (h : St c (readerV g2 v bs a2 :: blk g [v, .int .i64 (at_ : Nat)] 89 :: R) w) : St c (reader g bs at_ :: R) w :=
  St.toReader h.star.drop.swap

/-- The try is taken over. -/
theorem St.tryTake {c : Ctx} {R : List HP} {g g2 : Nat} {bs : List Nat} {at_ a2 : Nat} {v : Value} {w : World}
    (h : St c (readerV g2 v bs a2 :: blk g [v, .int .i64 (at_ : Nat)] 89 :: R) w) (x : Int) (hx : x = (a2 : Nat)) : St c (reader g bs a2 :: R) ((w.setCell ⟨g, 0, none⟩ v).setCell ⟨g, 1, none⟩ (.int .i64 x)) := by
  subst hx
  have h2 := (h.swap.setCell 0 v).setCell 1 (.int .i64 (a2 : Nat))
  simp only [List.set_cons_zero, List.set_cons_succ] at h2
  have h3 := h2.swap.star.drop
  exact St.toReader h3.swap

theorem St.tryFacts {c : Ctx} {R : List HP} {g g2 : Nat} {bs : List Nat} {at_ a2 : Nat} {v : Value} {w : World}
    (h : St c (readerV g2 v bs a2 :: blk g [v, .int .i64 (at_ : Nat)] 89 :: R) w) :
    w.cell? ⟨g2, 0, none⟩ = some v ∧ w.cell? ⟨g2, 1, none⟩ = some (.int .i64 (a2 : Nat)) ∧ w.cell? ⟨g, 0, none⟩ = some v ∧ w.cell? ⟨g, 1, none⟩ = some (.int .i64 (at_ : Nat)) ∧ w.frozen? ⟨g, 0, none⟩ = false ∧ w.frozen? ⟨g, 1, none⟩ = false := by
  have h1 := h.star
  have h2 := h.swap
  exact ⟨by rw [h1.cell 0]; rfl, by rw [h1.cell 1]; rfl, by rw [h2.cell 0]; rfl, by rw [h2.cell 1]; rfl, h2.frozen 0, h2.frozen 1⟩

theorem mul_wrap (z k : Nat) (hz : z ≤ 24) (hk : k ≤ 15) : wrap64 ((z : Int) * 2 ^ k) = ((z * 2 ^ k : Nat) : Int) ∧ z * 2 ^ k ≤ 786432 := by
  have h1 : 2 ^ k ≤ 2 ^ 15 := Nat.pow_le_pow_right (by decide) hk
  have h2 : z * 2 ^ k ≤ 24 * 2 ^ 15 := Nat.mul_le_mul hz h1
  have e : ((z : Int) * 2 ^ k) = ((z * 2 ^ k : Nat) : Int) := by push_cast; rfl
  rw [e]
  generalize z * 2 ^ k = q at *
  exact ⟨by unfold wrap64; omega, by omega⟩

set_option maxHeartbeats 1000000 in
set_option maxRecDepth 100000 in
theorem GGet_ok (c : Ctx) (R : List HP) (g : Nat) (bs : List Nat) (at_ k wide : Nat) (w : World) (hS : St c (reader g bs at_ :: R) w) (h1 : k ≤ 15) (h2 : 1 ≤ wide) (h3 : wide ≤ 16) (ha : at_ ≤ 8 * bs.length) (hb : bs.length ≤ 140737488355328) (hbs : ∀ b ∈ bs, b < 256) :
    Calls Tryd.prog 24 #[.pointer (some ⟨g, 0, none⟩), .int .i64 k, .int .i64 wide] w (GGetPost c R g bs at_ k wide) := by
  obtain ⟨rv, hS⟩ := hS.openReader
  obtain ⟨ao, cap, rfl, c0, c1, _, _, hS⟩ := hS.readerVFacts
  have HS := Lib.hid hS.tryOpen
  have HBS := Lib.hid hbs
  clear hS hbs
  go_enter Tryd.func24, Tryd.ntmps24
  go_wp2_with (go_at_call 43; refine (wrong_ok _ _ _ (by omega) (by omega) (by omega) (by omega)).mono ?_; rintro e w' ⟨rfl, rfl⟩)
  refine (Zeros_anyV c _ _ _ bs at_ 24 _ HS.out (by omega) ha hb HBS.out).mono ?_
  rintro e w1 ⟨z, hz, h0, hc⟩
  have H0 := Lib.hid h0
  clear h0 c0 c1
  rcases hc with ⟨rfl, hin, rfl, hS1⟩ | ⟨hlt, hend, rfl, m, rfl⟩ | ⟨hlt, hin, hone, rfl, hS1⟩
  · -- noughts, so many as may be
    have HS1 := Lib.hid hS1
    clear hS1
    by_cases hr : at_ + 24 + wide ≤ 8 * bs.length
    · obtain ⟨low, hlow⟩ : ∃ low, num (bitsAt bs (at_ + 24) wide) = low := ⟨_, rfl⟩
      have hlow16 : low < 65536 := by
        rw [← hlow]; exact Nat.lt_of_lt_of_le (num_bitsAt_lt _ _ _) (Nat.pow_le_pow_right (n := 2) (by decide) h3)
      have HLOW := Lib.hid hlow
      clear hlow
      have hdiv : ((low : Int) / 2 ^ k) = ((low / 2 ^ k : Nat) : Int) := by push_cast; rfl
      obtain ⟨hmw, hmb⟩ := mul_wrap 24 k (by omega) h1
      have hmw' : wrap64 (24 * 2 ^ k) = ((24 * 2 ^ k : Nat) : Int) := hmw
      clear hmw
      generalize 24 * 2 ^ k = q1 at *
      go_wp2_with fail
      refine (Get_isV c _ _ _ bs (at_ + 24) wide low _ HS1.out (by omega) hr hb HBS.out HLOW.out _ rfl).mono ?_
      rintro e w2 ⟨rfl, hS2⟩
      obtain ⟨d0, d1, e0, e1, f0, f1⟩ := hS2.tryFacts
      have HS2 := Lib.hid hS2
      clear hS2
      by_cases hq : low / 2 ^ k < 24
      · have t1 : decide (((low / 2 ^ k : Nat) : Int) < 24) = true := by rw [decide_eq_true_iff]; omega
        have Hq : Hid (low / 2 ^ k < 24) := hq
        generalize low / 2 ^ k = d at hdiv t1 hq
        go_wp2_with fail
        go_ret2
        refine .inr ⟨24, .inr rfl, fun n hn hf => ?_, rfl, HS2.out.tryDrop⟩
        obtain ⟨a1, a2⟩ := long_only hn H0.out hf
        rw [HLOW.out] at a1
        subst a1
        exact a2 Hq.out
      · have t1 : decide (((low / 2 ^ k : Nat) : Int) < 24) = false := by rw [decide_eq_false_iff_not]; omega
        have t2 : decide (low / 2 ^ k < 24) = false := by rw [decide_eq_false_iff_not]; omega
        have Hq : Hid (¬ low / 2 ^ k < 24) := hq
        generalize low / 2 ^ k = d at hdiv t1 t2 hq
        go_wp2_with fail
        go_ret2
        have hf := long_has (bs := bs) (at_ := at_) (k := k) (wide := wide) H0.out hr (by rw [HLOW.out]; exact Hq.out)
        rw [HLOW.out] at hf
        refine .inl ⟨low, ?_, hf.1, rfl, ?_⟩
        · rw [← HLOW.out]; exact num_bitsAt_lt _ _ _
        · rw [hf.2, ← Nat.add_assoc]
          exact HS2.out.tryTake _ (by push_cast; omega)
    · go_wp2_with fail
      refine (Get_endV c _ _ _ bs (at_ + 24) wide _ HS1.out (by omega) hin (by omega) hb).mono ?_
      rintro e w2 ⟨rfl, m, rfl⟩
      go_wp2_with fail
      go_ret2
      refine .inr ⟨23, .inl rfl, fun n hn hf => ?_, rfl, (HS1.out.drewN m).tryDrop⟩
      have := zeros_form H0.out hf
      omega
  · -- the bits end
    go_wp2_with fail
    go_ret2
    exact .inr ⟨23, .inl rfl, fun n hn => none_end hlt H0.out hend n, rfl, (HS.out.drewN m).tryDrop⟩
  · -- a one
    have HS1 := Lib.hid hS1
    have HONE := Lib.hid hone
    clear hS1 hone
    have t0 : ((z : Int) == 24) = false := by rw [beq_eq_false_iff_ne]; omega
    have t0' : (z == 24) = false := by rw [beq_eq_false_iff_ne]; omega
    by_cases hr : at_ + z + 1 + k ≤ 8 * bs.length
    · obtain ⟨low, hlow⟩ : ∃ low, num (bitsAt bs (at_ + z + 1) k) = low := ⟨_, rfl⟩
      have hlow16 : low < 32768 := by
        rw [← hlow]; exact Nat.lt_of_lt_of_le (num_bitsAt_lt _ _ _) (Nat.pow_le_pow_right (n := 2) (by decide) h1)
      have HLOW := Lib.hid hlow
      clear hlow
      obtain ⟨hmw, hmb⟩ := mul_wrap z k (by omega) h1
      have Hf := Lib.hid (short_has (wide := wide) hlt H0.out HONE.out hr)
      have Honly : Hid (∀ n, hasForm bs at_ n k wide → n = z * 2 ^ k + low) := by
        intro n hf
        have := short_only hlt H0.out HONE.out hf
        rwa [HLOW.out] at this
      have hpw := pow_wrap wide (by omega)
      rw [HLOW.out] at Hf
      generalize z * 2 ^ k = q1 at *
      obtain ⟨pw, hpwe⟩ : ∃ pw, pw = 2 ^ wide := ⟨_, rfl⟩
      rw [← hpwe] at hpw
      have HPW := Lib.hid hpwe
      clear hpwe
      go_wp2_with fail
      refine (Get_isV c _ _ _ bs (at_ + z + 1) k low _ HS1.out (by omega) hr hb HBS.out HLOW.out _ rfl).mono ?_
      rintro e w2 ⟨rfl, hS2⟩
      obtain ⟨d0, d1, e0, e1, f0, f1⟩ := hS2.tryFacts
      have HS2 := Lib.hid hS2
      clear hS2
      by_cases hq : q1 + low < pw
      · have t1 : decide ((pw : Int) ≤ (q1 : Int) + low) = false := by rw [decide_eq_false_iff_not]; omega
        have t2 : decide (pw ≤ q1 + low) = false := by rw [decide_eq_false_iff_not]; omega
        go_wp2_with fail
        go_ret2
        refine .inl ⟨q1 + low, by rw [← HPW.out]; exact hq, Hf.out.1, by push_cast; rfl, ?_⟩
        rw [Hf.out.2, ← Nat.add_assoc, ← Nat.add_assoc]
        exact HS2.out.tryTake _ (by push_cast; omega)
      · have t1 : decide ((pw : Int) ≤ (q1 : Int) + low) = true := by rw [decide_eq_true_iff]; omega
        have t2 : decide (pw ≤ q1 + low) = true := by rw [decide_eq_true_iff]; omega
        go_wp2_with fail
        go_ret2
        refine .inr ⟨24, .inr rfl, fun n hn hf => ?_, rfl, HS2.out.tryDrop⟩
        have := Honly.out n hf
        rw [← HPW.out] at hn
        omega
    · go_wp2_with fail
      refine (Get_endV c _ _ _ bs (at_ + z + 1) k _ HS1.out (by omega) (by omega) (by omega) hb).mono ?_
      rintro e w2 ⟨rfl, m, rfl⟩
      go_wp2_with fail
      go_ret2
      refine .inr ⟨23, .inl rfl, fun n hn hf => ?_, rfl, (HS1.out.drewN m).tryDrop⟩
      have := one_form hlt H0.out HONE.out hf
      omega

end Go.Proofs.YtakmkjdmonmilaaDoor
