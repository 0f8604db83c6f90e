import Derived.Test.YtakmkjdmonmilaaDoorGoR
import Derived.BigRegion
namespace Go.Proofs.YtakmkjdmonmilaaDoor
set_option linter.unusedSimpArgs false
set_option linter.unusedVariables false
open Go Go.RowKit

/-! golomb: Get of runs. -/
def RGetPost (c : Ctx) (R : List HP) (g g2 : Nat) (bs : List Nat) (at_ r room : Nat) (e : Ending) (w' : World) : Prop :=
  (∃ n : Nat, n ≤ room ∧ hasRun bs at_ r n room ∧ e = .returned (.tuple #[.int .i64 (n : Nat), .int .i64 0]) ∧ St c (runs g (rnext r n room) :: reader g2 bs (at_ + (rform r n room).length) :: R) w') ∨
  (∃ x : Int, (x = 23 ∨ x = 24) ∧ (∀ n, n ≤ room → ¬ hasRun bs at_ r n room) ∧ e = .returned (.tuple #[.int .i64 0, .int .i64 x]) ∧ St c (runs g r :: reader g2 bs at_ :: R) w')

theorem St.rgFacts {c : Ctx} {R : List HP} {h1 h2 g g2 r r2 : Nat} {bs : List Nat} {at_ a2 : Nat} {v : Value} {w : World}
    (h : St c (readerV h1 v bs a2 :: runs h2 r2 :: blk g2 [v, .int .i64 (at_ : Nat)] 89 :: runs g r :: R) w) :
    (w.cell? ⟨h1, 0, none⟩ = some v ∧ w.cell? ⟨h1, 1, none⟩ = some (.int .i64 (a2 : Nat)) ∧ w.cell? ⟨g2, 0, none⟩ = some v ∧ w.cell? ⟨g2, 1, none⟩ = some (.int .i64 (at_ : Nat)) ∧ w.frozen? ⟨g2, 0, none⟩ = false ∧ w.frozen? ⟨g2, 1, none⟩ = false) ∧
    w.cell? ⟨h2, 0, none⟩ = some (.int .i64 (r2 : Nat)) ∧ w.cell? ⟨g, 0, none⟩ = some (.int .i64 (r : Nat)) ∧ w.frozen? ⟨g, 0, none⟩ = false ∧ g ≠ g2 ∧ g2 ≠ g := by
  refine ⟨h.swap.drop.tryFacts, ?_, ?_, h.swap.drop.drop.drop.frozen 0, h.swap.drop.drop.ne_blk, h.swap.drop.drop.ne_blk.symm⟩
  · rw [h.swap.cell 0]; rfl
  · rw [h.swap.drop.drop.drop.cell 0]; rfl

theorem St.rgTake {c : Ctx} {R : List HP} {h1 h2 g g2 r r2 : Nat} {bs : List Nat} {at_ a2 : Nat} {v : Value} {w : World}
    (h : St c (readerV h1 v bs a2 :: runs h2 r2 :: blk g2 [v, .int .i64 (at_ : Nat)] 89 :: runs g r :: R) w) (x y : Int) (hx : x = (a2 : Nat)) (hy : y = (r2 : Nat)) :
    St c (runs g r2 :: reader g2 bs a2 :: R) (((w.setCell ⟨g2, 0, none⟩ v).setCell ⟨g2, 1, none⟩ (.int .i64 x)).setCell ⟨g, 0, none⟩ (.int .i64 y)) :=
  (h.swap.drop.tryTake x hx).swap.runsSet y hy
theorem St.rgDrop {c : Ctx} {R : List HP} {h1 h2 g g2 r r2 : Nat} {bs : List Nat} {at_ a2 : Nat} {v : Value} {w : World}
    (h : St c (readerV h1 v bs a2 :: runs h2 r2 :: blk g2 [v, .int .i64 (at_ : Nat)] 89 :: runs g r :: R) w) : St c (runs g r :: reader g2 bs at_ :: R) w :=
  h.swap.drop.tryDrop.swap
theorem St.rgOpen1 {c : Ctx} {R : List HP} {g g2 r : Nat} {bs : List Nat} {at_ : Nat} {v : Value} {w : World} (h : St c (readerV g2 v bs at_ :: runs g r :: R) w) :
    St c (readerV w.heap.size v bs at_ :: runs (w.heap.size + 1) r :: blk g2 [v, .int .i64 (at_ : Nat)] 89 :: runs g r :: R) ((w.alloc (.cells #[v, .int .i64 (at_ : Nat)] 89)).alloc (.cells #[.int .i64 (r : Nat)] 83)).drew := by
  have h1 := (h.star.tryOpen).alloc [.int .i64 (r : Nat)] 83
  rw [World.size_alloc] at h1
  exact h1.swap.drewN 1
theorem St.rgOpen2 {c : Ctx} {R : List HP} {g g2 r : Nat} {bs : List Nat} {at_ : Nat} {v : Value} {w : World} (h : St c (readerV g2 v bs at_ :: runs g r :: R) w) :
    St c (readerV (w.heap.size + 1) v bs at_ :: runs w.heap.size r :: blk g2 [v, .int .i64 (at_ : Nat)] 89 :: runs g r :: R) ((w.alloc (.cells #[.int .i64 (r : Nat)] 83)).alloc (.cells #[v, .int .i64 (at_ : Nat)] 89)).drew := by
  have h0 := h.alloc [.int .i64 (r : Nat)] 83
  have h1 := h0.swap.star.tryOpen
  rw [World.size_alloc] at h1
  exact (h1.perm (List.Perm.cons _ (List.Perm.swap _ _ _))).drewN 1

theorem bit_at {bs : List Nat} {at_ : Nat} {b : Bool} (h : ubit bs at_ = b) : num (bitsAt bs at_ 1) = b2n b := by
  rw [← h]; simp [bitsAt, num]

set_option maxHeartbeats 4000000 in
set_option maxRecDepth 100000 in
theorem RGet_ok (W : World) (hT : Tab W) (R : List HP) (g g2 r room : Nat) (bs : List Nat) (at_ : Nat) (w : World) (hS : St (top W) (runs g r :: reader g2 bs at_ :: R) w) (hr : r ≤ 22) (h1 : 1 ≤ room) (h2 : room ≤ 4096) (ha : at_ ≤ 8 * bs.length) (hbl : bs.length ≤ 140737488355328) (hbs : ∀ b ∈ bs, b < 256) :
    Calls Tryd.prog 27 #[.pointer (some ⟨g, 0, none⟩), .pointer (some ⟨g2, 0, none⟩), .int .i64 room] w (RGetPost (top W) R g g2 bs at_ r room) := by
  obtain ⟨rv, hS⟩ := hS.swap.openReader
  obtain ⟨ao, cap, rfl, c0, c1, _, _, _⟩ := hS.readerVFacts
  have d0 := hS.swap.cell 0
  simp only [List.getElem?_cons_zero] at d0
  have hg := hS.swap.lt_heap
  have hg2 := hS.star.lt_heap
  have HO1 := Lib.hid hS.rgOpen1
  have HO2 := Lib.hid hS.rgOpen2
  have HBS := Lib.hid hbs
  have HT := Lib.hid hT
  clear hS hbs hT
  have t1 : decide ((room : Int) < 1) = false := by rw [decide_eq_false_iff_not]; omega
  have t2 : decide ((4096 : Int) < room) = false := by rw [decide_eq_false_iff_not]; omega
  go_enter Tryd.func27, Tryd.ntmps27
  go_wp2_with fail
  go_region
  · have HS := HO1
    clear c0 c1 d0 HO1 HO2
    generalize w.heap.size + 1 = b2 at *
    generalize w.heap.size = b1 at *
    go_wp2_with fail
    go_loopw [10] (fun v w' => ∃ left a2 r2 : Nat, v = .int .i64 (left : Nat) ∧ left ≤ room ∧ a2 ≤ 8 * bs.length ∧ r2 ≤ 22 ∧ Hid (RunIs bs at_ r room a2 r2 left) ∧ Hid (St (top W) (readerV b1 (.slice ao bs.length cap) bs a2 :: runs b2 r2 :: blk g2 [.slice ao bs.length cap, .int .i64 (at_ : Nat)] 89 :: runs g r :: R) w')) (fun v _ => (intOf v).toNat)
    case atStart => exact ⟨room, at_, r, rfl, by omega, ha, hr, RunIs.start _ _ _ _, HS⟩
    case round =>
      obtain ⟨left, a2, r2, rfl, hlr, ha2, hr2, HI, hS⟩ := hrel
      have HS := hS
      clear hS
      by_cases h0 : 0 < left
      · by_cases hbit : a2 + 1 ≤ 8 * bs.length
        · cases hb : ubit bs a2 with
          | true =>
            have hone := Lib.hid (bit_at hb)
            have HBT := Lib.hid hb
            clear hb
            go_wp2_with fail
            refine (Get_isV (top W) _ b1 _ bs a2 1 1 _ HS.out (by decide) hbit hbl HBS.out hone.out (a2 + 1) rfl).mono ?_
            rintro en w3 ⟨rfl, hS3⟩
            have HS3 := Lib.hid hS3
            clear hS3 HS
            obtain ⟨p, hp⟩ : ∃ p, 2 ^ J r2 = p := ⟨_, rfl⟩
            have hp0 : 0 < p := by rw [← hp]; exact Nat.two_pow_pos _
            have hp1 : p ≤ 4096 := by rw [← hp]; exact (Nat.pow_le_pow_right (n := 2) (by decide) (J_le r2) : 2 ^ J r2 ≤ 2 ^ 12)
            have HP := Lib.hid hp
            clear hp
            go_wp2_with fail
            refine (stretch_ok W HT.out _ b2 r2 p _ HS3.out.swap hr2 HP.out).mono ?_
            rintro en w4 ⟨rfl, m4, rfl⟩
            have HS4 := Lib.hid (HS3.out.drewN m4)
            clear HS3
            by_cases hpl : p ≤ left
            · have u1 : decide ((left : Int) < p) = false := by rw [decide_eq_false_iff_not]; omega
              have u2 : decide (left < p) = false := by rw [decide_eq_false_iff_not]; omega
              have HI2 := Lib.hid (HI.out.one HBT.out (by rw [HP.out]; exact hpl))
              rw [HP.out] at HI2
              obtain ⟨r3, hr3⟩ : ∃ q, min (r2 + 1) 22 = q := ⟨_, rfl⟩
              rw [hr3] at HI2
              have hr3b : r3 ≤ 22 := by omega
              have HR3 := Lib.hid hr3
              clear hr3
              go_wp2_with fail
              refine (up_ok (top W) _ b2 r2 r3 _ HS4.out.swap hr2 HR3.out).mono ?_
              rintro en w5 ⟨rfl, hS5⟩
              have HS5 := Lib.hid hS5.swap
              clear hS5 HS4
              go_wp2_with fail
              go_roundw
              case rel => exact ⟨left - p, a2 + 1, r3, by go_num, by omega, hbit, hr3b, HI2, HS5⟩
              case measure => simp [intOf]; omega
            · have u1 : decide ((left : Int) < p) = true := by rw [decide_eq_true_iff]; omega
              have u2 : decide (left < p) = true := by rw [decide_eq_true_iff]; omega
              have HF := Lib.hid (HI.out.full h0 HBT.out hbit (by rw [HP.out]; exact hpl))
              obtain ⟨⟨e0, e1, e2, e3, e4, e5⟩, e6, e7, e8, e9, e10⟩ := HS4.out.rgFacts
              have HS5 := Lib.hid HS4.out
              clear HS4
              go_wp2_with fail
              go_ret2
              obtain ⟨q1, q2, q3⟩ := HF.out
              refine .inl ⟨room, Nat.le_refl _, q1, by first | rfl | simp, ?_⟩
              rw [q2, q3]
              exact HS5.out.rgTake _ _ (by push_cast; rfl) rfl
          | false =>
            have hzero := Lib.hid (bit_at hb)
            have HBF := Lib.hid hb
            clear hb
            go_wp2_with fail
            refine (Get_isV (top W) _ b1 _ bs a2 1 0 _ HS.out (by decide) hbit hbl HBS.out hzero.out (a2 + 1) rfl).mono ?_
            rintro en w3 ⟨rfl, hS3⟩
            have ct := HT.out.at hS3 r2 (by omega)
            have e6 := hS3.rgFacts.2.1
            have HS3 := Lib.hid hS3
            obtain ⟨j, hj⟩ : ∃ j, J r2 = j := ⟨_, rfl⟩
            have hj12 : j ≤ 12 := by rw [← hj]; exact J_le r2
            rw [hj] at ct
            have HJ := Lib.hid hj
            clear hS3 HS hj
            by_cases hrest : a2 + 1 + j ≤ 8 * bs.length
            · obtain ⟨d, hd⟩ : ∃ d, num (bitsAt bs (a2 + 1) j) = d := ⟨_, rfl⟩
              have hd2 : d < 4096 + 1 := by
                rw [← hd]; exact Nat.lt_of_lt_of_le (num_bitsAt_lt _ _ _) (Nat.le_trans (Nat.pow_le_pow_right (n := 2) (by decide) hj12) (by decide))
              have HD := Lib.hid hd
              clear hd
              go_wp2_with fail
              refine (Get_isV (top W) _ b1 _ bs (a2 + 1) j d _ HS3.out (by omega) hrest hbl HBS.out HD.out (a2 + 1 + j) rfl).mono ?_
              rintro en w5 ⟨rfl, hS5⟩
              have HS5 := Lib.hid hS5
              clear hS5 HS3 ct e6
              by_cases hdl : d < left
              · have u1 : decide ((left : Int) ≤ d) = false := by rw [decide_eq_false_iff_not]; omega
                have u2 : decide (left ≤ d) = false := by rw [decide_eq_false_iff_not]; omega
                have HF := Lib.hid (HI.out.low HBF.out (by rw [HJ.out]; exact hrest) (by rw [HJ.out]; exact HD.out) hdl)
                rw [HJ.out] at HF
                obtain ⟨r3, hr3⟩ : ∃ q, r2 - 1 = q := ⟨_, rfl⟩
                rw [hr3] at HF
                have HR3 := Lib.hid hr3
                clear hr3
                go_wp2_with fail
                refine (down_ok (top W) _ b2 r2 r3 _ HS5.out.swap hr2 HR3.out).mono ?_
                rintro en w6 ⟨rfl, hS6⟩
                obtain ⟨⟨e0, e1, e2, e3, e4, e5⟩, e6, e7, e8, e9, e10⟩ := hS6.swap.rgFacts
                have HS6 := Lib.hid hS6.swap
                clear hS6 HS5
                go_wp2_with fail
                go_ret2
                obtain ⟨q1, q2, q3⟩ := HF.out
                refine .inl ⟨room - left + d, by omega, q1, by first | rfl | (rw [show ((room : Int) - ((left : Int) - d)) = ((room - left + d : Nat) : Int) by omega]; rfl), ?_⟩
                rw [q2, q3]
                exact HS6.out.rgTake _ _ (by push_cast; rfl) rfl
              · have u1 : decide ((left : Int) ≤ d) = true := by rw [decide_eq_true_iff]; omega
                have u2 : decide (left ≤ d) = true := by rw [decide_eq_true_iff]; omega
                go_wp2_with fail
                go_ret2
                exact .inr ⟨24, .inr rfl, HI.out.lowMuch (d := d) h0 HBF.out (by rw [HJ.out]; exact HD.out) (by omega), rfl, HS5.out.rgDrop⟩
            · go_wp2_with fail
              refine (Get_endV (top W) _ b1 _ bs (a2 + 1) j _ HS3.out (by omega) hbit (by omega) hbl).mono ?_
              rintro en w5 ⟨rfl, m5, rfl⟩
              go_wp2_with fail
              go_ret2
              exact .inr ⟨23, .inl rfl, HI.out.lowEnds h0 HBF.out (by rw [HJ.out]; omega), rfl, (HS3.out.drewN m5).rgDrop⟩
        · go_wp2_with fail
          refine (Get_endV (top W) _ b1 _ bs a2 1 _ HS.out (by decide) ha2 (by omega) hbl).mono ?_
          rintro en w5 ⟨rfl, m5, rfl⟩
          go_wp2_with fail
          go_ret2
          exact .inr ⟨23, .inl rfl, HI.out.ends h0 (by omega), rfl, (HS.out.drewN m5).rgDrop⟩
      · have hl0 : left = 0 := by omega
        subst hl0
        have HF := Lib.hid (HI.out.done ha2)
        obtain ⟨⟨e0, e1, e2, e3, e4, e5⟩, e6, e7, e8, e9, e10⟩ := HS.out.rgFacts
        go_wp2_with fail
        go_ret2
        obtain ⟨q1, q2, q3⟩ := HF.out
        refine .inl ⟨room, Nat.le_refl _, q1, by first | rfl | simp, ?_⟩
        rw [q2, q3]
        exact HS.out.rgTake _ _ (by push_cast; rfl) rfl

  · have HS := HO2
    clear c0 c1 d0 HO1 HO2
    generalize w.heap.size + 1 = b2 at *
    generalize w.heap.size = b1 at *
    go_wp2_with fail
    go_loopw [10] (fun v w' => ∃ left a2 r2 : Nat, v = .int .i64 (left : Nat) ∧ left ≤ room ∧ a2 ≤ 8 * bs.length ∧ r2 ≤ 22 ∧ Hid (RunIs bs at_ r room a2 r2 left) ∧ Hid (St (top W) (readerV b2 (.slice ao bs.length cap) bs a2 :: runs b1 r2 :: blk g2 [.slice ao bs.length cap, .int .i64 (at_ : Nat)] 89 :: runs g r :: R) w')) (fun v _ => (intOf v).toNat)
    case atStart => exact ⟨room, at_, r, rfl, by omega, ha, hr, RunIs.start _ _ _ _, HS⟩
    case round =>
      obtain ⟨left, a2, r2, rfl, hlr, ha2, hr2, HI, hS⟩ := hrel
      have HS := hS
      clear hS
      by_cases h0 : 0 < left
      · by_cases hbit : a2 + 1 ≤ 8 * bs.length
        · cases hb : ubit bs a2 with
          | true =>
            have hone := Lib.hid (bit_at hb)
            have HBT := Lib.hid hb
            clear hb
            go_wp2_with fail
            refine (Get_isV (top W) _ b2 _ bs a2 1 1 _ HS.out (by decide) hbit hbl HBS.out hone.out (a2 + 1) rfl).mono ?_
            rintro en w3 ⟨rfl, hS3⟩
            have HS3 := Lib.hid hS3
            clear hS3 HS
            obtain ⟨p, hp⟩ : ∃ p, 2 ^ J r2 = p := ⟨_, rfl⟩
            have hp0 : 0 < p := by rw [← hp]; exact Nat.two_pow_pos _
            have hp1 : p ≤ 4096 := by rw [← hp]; exact (Nat.pow_le_pow_right (n := 2) (by decide) (J_le r2) : 2 ^ J r2 ≤ 2 ^ 12)
            have HP := Lib.hid hp
            clear hp
            go_wp2_with fail
            refine (stretch_ok W HT.out _ b1 r2 p _ HS3.out.swap hr2 HP.out).mono ?_
            rintro en w4 ⟨rfl, m4, rfl⟩
            have HS4 := Lib.hid (HS3.out.drewN m4)
            clear HS3
            by_cases hpl : p ≤ left
            · have u1 : decide ((left : Int) < p) = false := by rw [decide_eq_false_iff_not]; omega
              have u2 : decide (left < p) = false := by rw [decide_eq_false_iff_not]; omega
              have HI2 := Lib.hid (HI.out.one HBT.out (by rw [HP.out]; exact hpl))
              rw [HP.out] at HI2
              obtain ⟨r3, hr3⟩ : ∃ q, min (r2 + 1) 22 = q := ⟨_, rfl⟩
              rw [hr3] at HI2
              have hr3b : r3 ≤ 22 := by omega
              have HR3 := Lib.hid hr3
              clear hr3
              go_wp2_with fail
              refine (up_ok (top W) _ b1 r2 r3 _ HS4.out.swap hr2 HR3.out).mono ?_
              rintro en w5 ⟨rfl, hS5⟩
              have HS5 := Lib.hid hS5.swap
              clear hS5 HS4
              go_wp2_with fail
              go_roundw
              case rel => exact ⟨left - p, a2 + 1, r3, by go_num, by omega, hbit, hr3b, HI2, HS5⟩
              case measure => simp [intOf]; omega
            · have u1 : decide ((left : Int) < p) = true := by rw [decide_eq_true_iff]; omega
              have u2 : decide (left < p) = true := by rw [decide_eq_true_iff]; omega
              have HF := Lib.hid (HI.out.full h0 HBT.out hbit (by rw [HP.out]; exact hpl))
              obtain ⟨⟨e0, e1, e2, e3, e4, e5⟩, e6, e7, e8, e9, e10⟩ := HS4.out.rgFacts
              have HS5 := Lib.hid HS4.out
              clear HS4
              go_wp2_with fail
              go_ret2
              obtain ⟨q1, q2, q3⟩ := HF.out
              refine .inl ⟨room, Nat.le_refl _, q1, by first | rfl | simp, ?_⟩
              rw [q2, q3]
              exact HS5.out.rgTake _ _ (by push_cast; rfl) rfl
          | false =>
            have hzero := Lib.hid (bit_at hb)
            have HBF := Lib.hid hb
            clear hb
            go_wp2_with fail
            refine (Get_isV (top W) _ b2 _ bs a2 1 0 _ HS.out (by decide) hbit hbl HBS.out hzero.out (a2 + 1) rfl).mono ?_
            rintro en w3 ⟨rfl, hS3⟩
            have ct := HT.out.at hS3 r2 (by omega)
            have e6 := hS3.rgFacts.2.1
            have HS3 := Lib.hid hS3
            obtain ⟨j, hj⟩ : ∃ j, J r2 = j := ⟨_, rfl⟩
            have hj12 : j ≤ 12 := by rw [← hj]; exact J_le r2
            rw [hj] at ct
            have HJ := Lib.hid hj
            clear hS3 HS hj
            by_cases hrest : a2 + 1 + j ≤ 8 * bs.length
            · obtain ⟨d, hd⟩ : ∃ d, num (bitsAt bs (a2 + 1) j) = d := ⟨_, rfl⟩
              have hd2 : d < 4096 + 1 := by
                rw [← hd]; exact Nat.lt_of_lt_of_le (num_bitsAt_lt _ _ _) (Nat.le_trans (Nat.pow_le_pow_right (n := 2) (by decide) hj12) (by decide))
              have HD := Lib.hid hd
              clear hd
              go_wp2_with fail
              refine (Get_isV (top W) _ b2 _ bs (a2 + 1) j d _ HS3.out (by omega) hrest hbl HBS.out HD.out (a2 + 1 + j) rfl).mono ?_
              rintro en w5 ⟨rfl, hS5⟩
              have HS5 := Lib.hid hS5
              clear hS5 HS3 ct e6
              by_cases hdl : d < left
              · have u1 : decide ((left : Int) ≤ d) = false := by rw [decide_eq_false_iff_not]; omega
                have u2 : decide (left ≤ d) = false := by rw [decide_eq_false_iff_not]; omega
                have HF := Lib.hid (HI.out.low HBF.out (by rw [HJ.out]; exact hrest) (by rw [HJ.out]; exact HD.out) hdl)
                rw [HJ.out] at HF
                obtain ⟨r3, hr3⟩ : ∃ q, r2 - 1 = q := ⟨_, rfl⟩
                rw [hr3] at HF
                have HR3 := Lib.hid hr3
                clear hr3
                go_wp2_with fail
                refine (down_ok (top W) _ b1 r2 r3 _ HS5.out.swap hr2 HR3.out).mono ?_
                rintro en w6 ⟨rfl, hS6⟩
                obtain ⟨⟨e0, e1, e2, e3, e4, e5⟩, e6, e7, e8, e9, e10⟩ := hS6.swap.rgFacts
                have HS6 := Lib.hid hS6.swap
                clear hS6 HS5
                go_wp2_with fail
                go_ret2
                obtain ⟨q1, q2, q3⟩ := HF.out
                refine .inl ⟨room - left + d, by omega, q1, by first | rfl | (rw [show ((room : Int) - ((left : Int) - d)) = ((room - left + d : Nat) : Int) by omega]; rfl), ?_⟩
                rw [q2, q3]
                exact HS6.out.rgTake _ _ (by push_cast; rfl) rfl
              · have u1 : decide ((left : Int) ≤ d) = true := by rw [decide_eq_true_iff]; omega
                have u2 : decide (left ≤ d) = true := by rw [decide_eq_true_iff]; omega
                go_wp2_with fail
                go_ret2
                exact .inr ⟨24, .inr rfl, HI.out.lowMuch (d := d) h0 HBF.out (by rw [HJ.out]; exact HD.out) (by omega), rfl, HS5.out.rgDrop⟩
            · go_wp2_with fail
              refine (Get_endV (top W) _ b2 _ bs (a2 + 1) j _ HS3.out (by omega) hbit (by omega) hbl).mono ?_
              rintro en w5 ⟨rfl, m5, rfl⟩
              go_wp2_with fail
              go_ret2
              exact .inr ⟨23, .inl rfl, HI.out.lowEnds h0 HBF.out (by rw [HJ.out]; omega), rfl, (HS3.out.drewN m5).rgDrop⟩
        · go_wp2_with fail
          refine (Get_endV (top W) _ b2 _ bs a2 1 _ HS.out (by decide) ha2 (by omega) hbl).mono ?_
          rintro en w5 ⟨rfl, m5, rfl⟩
          go_wp2_with fail
          go_ret2
          exact .inr ⟨23, .inl rfl, HI.out.ends h0 (by omega), rfl, (HS.out.drewN m5).rgDrop⟩
      · have hl0 : left = 0 := by omega
        subst hl0
        have HF := Lib.hid (HI.out.done ha2)
        obtain ⟨⟨e0, e1, e2, e3, e4, e5⟩, e6, e7, e8, e9, e10⟩ := HS.out.rgFacts
        go_wp2_with fail
        go_ret2
        obtain ⟨q1, q2, q3⟩ := HF.out
        refine .inl ⟨room, Nat.le_refl _, q1, by first | rfl | simp, ?_⟩
        rw [q2, q3]
        exact HS.out.rgTake _ _ (by push_cast; rfl) rfl


end Go.Proofs.YtakmkjdmonmilaaDoor
