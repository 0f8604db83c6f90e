import Derived.Test.YtakmkjdmonmilaaDoorBitsK
/-! The reader's contracts with its slice told. -/
namespace Go.Proofs.YtakmkjdmonmilaaDoor
set_option linter.unusedSimpArgs false
set_option linter.unusedVariables false
open Go Go.RowKit

/-- A reader whose bytes lie at this slice. -/
def readerV (g : Nat) (v : Value) (bs : List Nat) (at_ : Nat) : HP :=
  (blk g [v, .int .i64 (at_ : Nat)] 89).star (row 5 1 v bs.length (bytesV bs))
theorem St.openReader {c : Ctx} {R : List HP} {g : Nat} {bs : List Nat} {at_ : Nat} {w : World} (h : St c (reader g bs at_ :: R) w) : ∃ v, St c (readerV g v bs at_ :: R) w := h.open_
theorem St.shutReader {c : Ctx} {R : List HP} {g : Nat} {v : Value} {bs : List Nat} {at_ : Nat} {w : World} (h : St c (readerV g v bs at_ :: R) w) : St c (reader g bs at_ :: R) w :=
  St.close (A := fun v => readerV g v bs at_) v h

theorem St.readerVFacts {c : Ctx} {R : List HP} {g : Nat} {rv : Value} {bs : List Nat} {at_ : Nat} {w : World} (h : St c (readerV g rv bs at_ :: R) w) :
    ∃ ao cap, rv = .slice ao bs.length cap ∧ w.cell? ⟨g, 0, none⟩ = some (.slice ao bs.length cap) ∧ w.cell? ⟨g, 1, none⟩ = some (.int .i64 (at_ : Nat)) ∧ w.frozen? ⟨g, 1, none⟩ = false ∧
      (∀ i, i < bs.length → ∃ g2, ao = some ⟨g2, 0, none⟩ ∧ w.cell? ⟨g2, i, none⟩ = some (.int .u8 (bs.getD i 0 : Nat))) ∧
      St c (blk g [.slice ao bs.length cap, .int .i64 (at_ : Nat)] 89 :: row 5 1 (.slice ao bs.length cap) bs.length (bytesV bs) :: R) w := by
  have h := h.star
  obtain ⟨ao, cap, rfl, hc, hl, hn, ha⟩ := h.swap.rowShape
  refine ⟨ao, cap, rfl, by rw [h.cell 0]; rfl, by rw [h.cell 1]; rfl, h.frozen 1, ?_, h⟩
  intro i hi
  cases ao with
  | none => have := hn rfl; omega
  | some ad =>
    obtain ⟨h0, h1, h2⟩ := ha ad rfl
    refine ⟨ad.block, ?_, ?_⟩
    · cases ad; simp_all
    · have := h2 i (.int .u8 (bs.getD i 0 : Nat)) (by simp [bytesV, hi])
      cases ad
      simp only at h0 h1
      subst h0; subst h1
      unfold Addr.add at this
      split at this
      · subst i; exact this
      · simpa using this

theorem Left_qV (c : Ctx) (R : List HP) (g : Nat) (rv : Value) (bs : List Nat) (at_ : Nat) (w : World) (hS : St c (readerV g rv bs at_ :: R) w) (ha : at_ ≤ 8 * bs.length) (hb : bs.length ≤ 140737488355328) :
    Calls Tryd.prog 26 #[.pointer (some ⟨g, 0, none⟩)] w fun e w' => e = .returned (.int .i64 (8 * bs.length - at_ : Nat)) ∧ ∃ m, w' = w.drewN m := by
  obtain ⟨ao, cap, rfl, h0, h1, hf, hcells, hS⟩ := hS.readerVFacts
  clear hS hcells
  go_enter Tryd.func26, Tryd.ntmps26
  go_wp2
  go_quiet (fail)
  go_wp2
  go_ret
  exact ⟨by simp; omega, _, rfl⟩

theorem Left_isV (c : Ctx) (R : List HP) (g : Nat) (rv : Value) (bs : List Nat) (at_ r : Nat) (w : World) (hS : St c (readerV g rv bs at_ :: R) w) (ha : at_ ≤ 8 * bs.length) (hb : bs.length ≤ 140737488355328) (hr : 8 * bs.length - at_ = r) :
    Calls Tryd.prog 26 #[.pointer (some ⟨g, 0, none⟩)] w fun e w' => e = .returned (.int .i64 (r : Nat)) ∧ ∃ m, w' = w.drewN m := by
  subst hr
  exact Left_qV c R g rv bs at_ w hS ha hb

theorem bit_qV (c : Ctx) (R : List HP) (g : Nat) (rv : Value) (bs : List Nat) (at_ i : Nat) (w : World) (hS : St c (readerV g rv bs at_ :: R) w) (hi : at_ + i < 8 * bs.length) (hb : bs.length ≤ 140737488355328) (hbs : ∀ b ∈ bs, b < 256) :
    Calls Tryd.prog 45 #[.pointer (some ⟨g, 0, none⟩), .int .i64 (i : Nat)] w fun e w' => e = .returned (.int .u32 (b2n (ubit bs (at_ + i)) : Nat)) ∧ ∃ m, w' = w.drewN m := by
  obtain ⟨ao, cap, rfl, h0, h1, hf, hcells, hS⟩ := hS.readerVFacts
  obtain ⟨g2, rfl, hcell⟩ := hcells ((at_ + i) / 8) (by omega)
  have hlt : bs.getD ((at_ + i) / 8) 0 < 256 := by
    have : (at_ + i) / 8 < bs.length := by omega
    rw [List.getD_eq_getElem?_getD, List.getElem?_eq_getElem this]
    exact hbs _ (List.getElem_mem _)
  have hv := Lib.hid (bit_val (bs.getD ((at_ + i) / 8) 0) (at_ + i) hlt)
  have hu : b2n (ubit bs (at_ + i)) = b2n ((bs.getD ((at_ + i) / 8) 0).testBit (7 - (at_ + i) % 8)) := rfl
  rw [hu]
  generalize bs.getD ((at_ + i) / 8) 0 = bt at *
  clear hS hcells hu
  go_enter Tryd.func45, Tryd.ntmps45
  go_wp2
  go_ret
  exact ⟨by rw [← hv.out]; rfl, 0, rfl⟩

set_option maxRecDepth 100000 in
theorem Get_okV (c : Ctx) (R : List HP) (g : Nat) (rv : Value) (bs : List Nat) (at_ n : Nat) (w : World) (hS : St c (readerV g rv bs at_ :: R) w) (hn : n ≤ 32) (hi : at_ + n ≤ 8 * bs.length) (hb : bs.length ≤ 140737488355328) (hbs : ∀ b ∈ bs, b < 256) :
    Calls Tryd.prog 30 #[.pointer (some ⟨g, 0, none⟩), .int .i64 (n : Nat)] w fun e w' => e = .returned (.tuple #[.int .u32 (num (bitsAt bs at_ n) : Nat), .int .i64 0]) ∧ St c (readerV g rv bs (at_ + n) :: R) w' := by
  have HS := Lib.hid hS
  have HBS := Lib.hid hbs
  have hd : decide (8 * bs.length - at_ < n) = false := by rw [decide_eq_false_iff_not]; omega
  clear hS hbs
  go_enter Tryd.func30, Tryd.ntmps30
  go_wp2_with (go_at_call 26; refine (Left_qV c R g rv bs at_ _ HS.out (by omega) hb).mono ?_; rintro e w' ⟨rfl, m, rfl⟩)
  go_loopw [6, 7, 19] (fun v j i w' => ∃ k : Nat, k ≤ n ∧ i = .int .i64 (k : Nat) ∧ v = .int .u32 (num (bitsAt bs at_ k) : Nat) ∧ Hid (∃ m, w' = w.drewN m)) (fun _ _ i _ => n - (intOf i).toNat)
  case atStart => exact ⟨0, by omega, by simp, by simp [bitsAt, num], ⟨_, rfl⟩⟩
  case round =>
    obtain ⟨k, hk, rfl, rfl, hq⟩ := hrel
    have hlt := num_lt (bitsAt bs at_ k)
    rw [bitsAt_length] at hlt
    by_cases hkn : k < n
    · have hlt2 : num (bitsAt bs at_ k) < 2147483648 := Nat.lt_of_lt_of_le hlt (Nat.pow_le_pow_right (n := 2) (by decide) (show k ≤ 31 by omega))
      have hsn : num (bitsAt bs at_ (k + 1)) = 2 * num (bitsAt bs at_ k) + b2n (ubit bs (at_ + k)) := by rw [bitsAt_succ, num_snoc]
      have HSN := Lib.hid hsn
      have HOR := Lib.hid (shl_or (num (bitsAt bs at_ k)) (b2n (ubit bs (at_ + k))) hlt2 (b2n_lt _))
      clear hsn hlt
      go_wp2_with (go_at_call 45; refine (bit_qV c R g _ bs at_ k _ (HS.out.of_quiet hq.out) (by omega) hb HBS.out).mono ?_; rintro e w' ⟨rfl, m, rfl⟩)
      go_roundw
      case rel => exact ⟨k + 1, by omega, by go_num, by rw [HOR.out, HSN.out], qt_on hq.out _⟩
      case measure => simp [intOf]; omega
    · have hkn : k = n := by omega
      subst hkn
      obtain ⟨ao, cap, rfl, h0, h1, hf, hcells, hS⟩ := (HS.out.of_quiet hq.out).readerVFacts
      have HS2 := Lib.hid hS
      clear hS hcells hlt
      go_wp2
      go_ret2
      refine ⟨rfl, ?_⟩
      refine St.unstar ?_
      simpa using HS2.out.setCell 1 (.int .i64 ((at_ : Int) + k))

theorem Get_isV (c : Ctx) (R : List HP) (g : Nat) (rv : Value) (bs : List Nat) (at_ n r : Nat) (w : World) (hS : St c (readerV g rv bs at_ :: R) w) (hn : n ≤ 32) (hi : at_ + n ≤ 8 * bs.length) (hb : bs.length ≤ 140737488355328) (hbs : ∀ b ∈ bs, b < 256) (hr : num (bitsAt bs at_ n) = r) (a2 : Nat) (h2 : at_ + n = a2) :
    Calls Tryd.prog 30 #[.pointer (some ⟨g, 0, none⟩), .int .i64 (n : Nat)] w fun e w' => e = .returned (.tuple #[.int .u32 (r : Nat), .int .i64 0]) ∧ St c (readerV g rv bs a2 :: R) w' := by
  subst hr; subst h2
  exact Get_okV c R g rv bs at_ n w hS hn hi hb hbs

theorem Get_endV (c : Ctx) (R : List HP) (g : Nat) (rv : Value) (bs : List Nat) (at_ n : Nat) (w : World) (hS : St c (readerV g rv bs at_ :: R) w) (hn : n ≤ 32) (ha : at_ ≤ 8 * bs.length) (hi : 8 * bs.length < at_ + n) (hb : bs.length ≤ 140737488355328) :
    Calls Tryd.prog 30 #[.pointer (some ⟨g, 0, none⟩), .int .i64 (n : Nat)] w fun e w' => e = .returned (.tuple #[.int .u32 0, .int .i64 13]) ∧ ∃ m, w' = w.drewN m := by
  have HS := Lib.hid hS
  clear hS
  go_enter Tryd.func30, Tryd.ntmps30
  go_wp2_with (go_at_call 26; refine (Left_qV c R g rv bs at_ _ HS.out (by omega) hb).mono ?_; rintro e w' ⟨rfl, m, rfl⟩)
  go_ret2
  exact ⟨rfl, _, rfl⟩

/-- What Zeros comes to: noughts, so many as may be; or to the end; or up to a one. -/
def ZerosPostV (c : Ctx) (R : List HP) (g : Nat) (rv : Value) (bs : List Nat) (at_ most : Nat) (w : World) (e : Ending) (w' : World) : Prop :=
  ∃ z, z ≤ most ∧ (∀ j, j < z → ubit bs (at_ + j) = false) ∧
    ((z = most ∧ at_ + z ≤ 8 * bs.length ∧ e = .returned (.tuple #[.int .i64 (z : Nat), .int .i64 0]) ∧ St c (readerV g rv bs (at_ + z) :: R) w') ∨
     (z < most ∧ at_ + z = 8 * bs.length ∧ e = .returned (.tuple #[.int .i64 0, .int .i64 13]) ∧ ∃ m, w' = w.drewN m) ∨
     (z < most ∧ at_ + z < 8 * bs.length ∧ ubit bs (at_ + z) = true ∧ e = .returned (.tuple #[.int .i64 (z : Nat), .int .i64 0]) ∧ St c (readerV g rv bs (at_ + z + 1) :: R) w'))

theorem St.readerVMoved {c : Ctx} {R : List HP} {g : Nat} {bs : List Nat} {at_ : Nat} {ao : Option Addr} {cap : Nat} {w : World}
    (h : St c (blk g [.slice ao bs.length cap, .int .i64 (at_ : Nat)] 89 :: row 5 1 (.slice ao bs.length cap) bs.length (bytesV bs) :: R) w) (a2 : Nat) (z : Int) (hz : z = a2) :
    St c (readerV g (.slice ao bs.length cap) bs a2 :: R) (w.setCell ⟨g, 1, none⟩ (.int .i64 z)) := by
  subst hz
  refine St.unstar ?_
  simpa using h.setCell 1 (.int .i64 (a2 : Int))

set_option maxRecDepth 100000 in
theorem Zeros_anyV (c : Ctx) (R : List HP) (g : Nat) (rv : Value) (bs : List Nat) (at_ most : Nat) (w : World) (hS : St c (readerV g rv bs at_ :: R) w) (hn : most ≤ 32) (ha : at_ ≤ 8 * bs.length) (hb : bs.length ≤ 140737488355328) (hbs : ∀ b ∈ bs, b < 256) :
    Calls Tryd.prog 44 #[.pointer (some ⟨g, 0, none⟩), .int .i64 (most : Nat)] w (ZerosPostV c R g rv bs at_ most w) := by
  have HS := Lib.hid hS
  have HBS := Lib.hid hbs
  clear hS hbs
  go_enter Tryd.func44, Tryd.ntmps44
  go_wp2_with (go_at_call 26; refine (Left_qV c R g rv bs at_ _ HS.out (by omega) hb).mono ?_; rintro e w' ⟨rfl, m, rfl⟩)
  go_loopw [7] (fun i w' => ∃ k : Nat, k ≤ most ∧ at_ + k ≤ 8 * bs.length ∧ i = .int .i64 (k : Nat) ∧ Hid (∀ j, j < k → ubit bs (at_ + j) = false) ∧ Hid (∃ m, w' = w.drewN m)) (fun i _ => most - (intOf i).toNat)
  case atStart => exact ⟨0, by omega, by omega, by simp, fun j hj => by omega, ⟨_, rfl⟩⟩
  case round =>
    obtain ⟨k, hk, hk2, rfl, hz, hq⟩ := hrel
    obtain ⟨ao, cap, rfl, h0, h1, hf, hcells, hS⟩ := (HS.out.of_quiet hq.out).readerVFacts
    have HS2 := Lib.hid hS
    clear hS hcells
    by_cases hkn : k < most
    · have d1 : decide ((k : Int) < most) = true := by simpa using hkn
      have e1 : (((k : Int)) == most) = false := by rw [beq_eq_false_iff_ne]; omega
      by_cases hkl : at_ + k < 8 * bs.length
      · have d2 : decide (k < 8 * bs.length - at_) = true := by rw [decide_eq_true_iff]; omega
        have e2 : (k == 8 * bs.length - at_) = false := by rw [beq_eq_false_iff_ne]; omega
        by_cases hu : ubit bs (at_ + k) = true
        · have hv : b2n (ubit bs (at_ + k)) = 1 := by rw [hu]; rfl
          go_wp2_with (go_at_call 45; refine (bit_qV c R g _ bs at_ k _ (HS.out.of_quiet hq.out) hkl hb HBS.out).mono ?_; rw [hv]; rintro e w' ⟨rfl, m, rfl⟩)
          go_ret2
          exact ⟨k, hk, hz.out, .inr (.inr ⟨hkn, hkl, hu, rfl, (HS2.out.drewN _).readerVMoved (at_ + k + 1) _ (by omega)⟩)⟩
        · have hu' : ubit bs (at_ + k) = false := by simpa using hu
          have hv : b2n (ubit bs (at_ + k)) = 0 := by rw [hu']; rfl
          have HU := Lib.hid hu'
          clear hu hu'
          go_wp2_with (go_at_call 45; refine (bit_qV c R g _ bs at_ k _ (HS.out.of_quiet hq.out) hkl hb HBS.out).mono ?_; rw [hv]; rintro e w' ⟨rfl, m, rfl⟩)
          go_roundw
          case rel => exact ⟨k + 1, by omega, by omega, by go_num, (fun j hj => by rcases Nat.lt_or_ge j k with h | h; exact hz.out j h; rw [show j = k by omega]; exact HU.out), qt_on hq.out _⟩
          case measure => simp [intOf]; omega
      · have d2 : decide (k < 8 * bs.length - at_) = false := by rw [decide_eq_false_iff_not]; omega
        have e2 : (k == 8 * bs.length - at_) = true := by rw [beq_iff_eq]; omega
        go_wp2_with fail
        go_ret2
        exact ⟨k, hk, hz.out, .inr (.inl ⟨hkn, by omega, rfl, hq.out⟩)⟩
    · have hkn : k = most := by omega
      subst hkn
      have d1 : decide ((k : Int) < k) = false := by simp
      go_wp2_with fail
      go_ret2
      exact ⟨k, hk, hz.out, .inl ⟨rfl, hk2, rfl, HS2.out.readerVMoved (at_ + k) _ (by omega)⟩⟩

end Go.Proofs.YtakmkjdmonmilaaDoor
