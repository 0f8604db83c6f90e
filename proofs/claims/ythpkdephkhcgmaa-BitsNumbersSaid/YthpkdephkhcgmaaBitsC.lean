import Derived.Test.YthpkdephkhcgmaaBitsB
namespace Go.Proofs.Ythpkdephkhcgmaa
set_option linter.unusedSimpArgs false
set_option linter.unusedVariables false
open Go Go.RowKit

theorem bytes_oneCell (l : List Nat) : ∀ u ∈ bytesV l, u.oneCell' = true := by
  intro u hu
  obtain ⟨_, _, rfl⟩ := List.mem_map.1 hu
  rfl
theorem bytesV_length (l : List Nat) : (bytesV l).length = l.length := by simp [bytesV]

theorem copied_ok (c : Ctx) (R : List HP) (v : Value) (bs : List Nat) (w : World) (hS : St c R w) (hv : Rd c R v (bytesV bs)) (hb : bs.length ≤ 140737488355328) :
    Calls Try.prog 33 #[v] w fun e w' => ∃ g cap, e = .returned (.slice (some ⟨g, 0, none⟩) bs.length cap) ∧ St c (row 5 1 (.slice (some ⟨g, 0, none⟩) bs.length cap) bs.length (bytesV bs) :: R) w' := by
  obtain ⟨ao, n, cap, rfl, hc, hn, -, -⟩ := hv [] w hS
  rw [bytesV_length] at hn
  subst hn
  have HS := Lib.hid hS
  have HV := Lib.hid hv
  clear hS hv
  go_enter Try.func33, Try.ntmps33
  go_wp2_with (at_make; go_must (refine St.make1 rfl _ _ _ rfl elemU8 rfl bs.length rfl rfl HS.out (by omega) (by unfold maxLen; omega) ?_))
  intro g w1 hS1
  have HS1 := Lib.hid hS1
  clear hS1
  go_wp2_with ((with_reducible refine at_dst 9 rfl ?_); go_must (refine St.copy rfl _ _ _ _ rfl elemU8 rfl rfl (HV.out [_] _ HS1.out) (bytes_oneCell _) HS1.out (by omega) ?_))
  intro w2 hS2
  have e1 : (bytesV bs).take bs.length = bytesV bs := List.take_of_length_le (by simp [bytesV])
  have HS2 := Lib.hid hS2
  clear hS2
  go_wp2
  go_ret
  refine ⟨g, bs.length, rfl, ?_⟩
  have := HS2.out
  rw [e1] at this
  simpa [bytesV_length] using this

theorem Bytes_ok (c : Ctx) (R : List HP) (g : Nat) (l : List Bool) (w : World) (hS : St c (writer g l :: R) w) (hl : l.length ≤ 562949953421344) :
    Calls Try.prog 21 #[.pointer (some ⟨g, 0, none⟩)] w fun e w' => ∃ g2 n cap, e = .returned (.slice (some ⟨g2, 0, none⟩) n cap) ∧ Hid (n = (pack l).length) ∧ St c (row 5 1 (.slice (some ⟨g2, 0, none⟩) n cap) n (bytesV (pack l)) :: writer g l :: R) w' := by
  obtain ⟨v, hS⟩ := hS.open_
  have hS := hS.star
  have hc := hS.cell 0
  simp only [List.getElem?_cons_zero] at hc
  obtain ⟨ao, cap, rfl, _⟩ := hS.swap.rowShape
  have hb : (pack l).length ≤ 140737488355328 := by rw [pack_length]; omega
  have HS := Lib.hid hS
  have HB := Lib.hid hb
  clear hS hb
  go_enter Try.func21, Try.ntmps21
  go_wp2_with (go_at_call 33; go_must (refine (copied_ok c _ _ (pack l) _ HS.out (Rd.of_mem (.tail _ (.head _))) HB.out).mono ?_); rintro e w' ⟨g2, cap2, rfl, hS2⟩)
  go_ret
  exact ⟨g2, _, cap2, rfl, rfl, (St.toWriter hS2.back3).swap⟩

set_option maxHeartbeats 1000000 in
set_option maxRecDepth 100000 in
theorem NewReader_ok (c : Ctx) (R : List HP) (v : Value) (bs : List Nat) (w : World) (hS : St c R w) (hv : Rd c R v (bytesV bs)) (hb : bs.length ≤ 140737488355328) :
    Calls Try.prog 22 #[v] w fun e w' => ∃ g, e = .returned (.pointer (some ⟨g, 0, none⟩)) ∧ St c (reader g bs 0 :: R) w' := by
  have hu := Try.underlying69
  obtain ⟨ao, n, cap, rfl, hc, hn, -, -⟩ := hv [] w hS
  have HS := Lib.hid hS
  have HV := Lib.hid hv
  clear hS hv hn
  go_enter Try.func22, Try.ntmps22
  go_wp2_with (go_at_call 33; go_must (refine (copied_ok c R _ bs _ HS.out HV.out hb).mono ?_); rintro e w' ⟨g2, cap2, rfl, hS2⟩)
  go_ret
  refine ⟨_, rfl, ?_⟩
  exact St.toReader (hS2.alloc [.slice (some ⟨g2, 0, none⟩) bs.length cap2, .int .i64 0] 69)

/-! ### whole bytes -/
theorem fits64_any (x n : Int) (w : World) (h0 : 0 ≤ n) :
    Calls Try.prog 27 #[.int .u64 x, .int .i64 n] w fun e w' => e = .returned (.bool (x / 2 ^ min n.toNat 64 == 0)) ∧ w = w' := by
  go_enter Try.func27, Try.ntmps27
  go_wp2
  go_ret
  exact ⟨rfl, rfl⟩

theorem piece_byte (v i : Nat) (hv : v < 18446744073709551616) : bits .and .u64 ((v : Int) / 2 ^ i) 255 % 256 = ((v / 2 ^ i % 256 : Nat) : Int) := by
  have e2 : ((v : Int) / 2 ^ i) = ((v / 2 ^ i : Nat) : Int) := by push_cast; rfl
  rw [e2, show ((255 : Int)) = ((255 : Nat) : Int) by decide]
  have hlt : v / 2 ^ i < 18446744073709551616 := Nat.lt_of_le_of_lt (Nat.div_le_self _ _) hv
  rw [u64_and_nat _ _ hlt (by decide)]
  have : v / 2 ^ i &&& 255 = v / 2 ^ i % 256 := Nat.and_two_pow_sub_one_eq_mod (v / 2 ^ i) 8
  rw [this]
  omega

theorem piece64_byte (v i : Nat) (w : World) (hv : Hid (v < 18446744073709551616)) (hi : i ≤ 63) :
    Calls Try.prog 28 #[.int .u64 v, .int .i64 i, .int .i64 8] w fun e w' => e = .returned (.int .u8 (v / 2 ^ i % 256 : Nat)) ∧ ∃ m, w' = w.drewN m := by
  have H := Lib.hid (piece_byte v i hv.out)
  generalize v / 2 ^ i % 256 = r at *
  go_enter Try.func28, Try.ntmps28
  go_wp2
  go_quiet (fail)
  go_wp2
  go_ret
  refine ⟨?_, _, rfl⟩
  rw [← H.out]
  rfl

theorem piece64_byteI (v : Nat) (i : Int) (w : World) (hv : Hid (v < 18446744073709551616)) (h0 : 0 ≤ i) (hi : i ≤ 63) :
    Calls Try.prog 28 #[.int .u64 v, .int .i64 i, .int .i64 8] w fun e w' => e = .returned (.int .u8 (v / 2 ^ i.toNat % 256 : Nat)) ∧ ∃ m, w' = w.drewN m := by
  obtain ⟨k, rfl⟩ := Int.eq_ofNat_of_zero_le h0
  exact piece64_byte v k w hv (by omega)

theorem piece64_is (v r : Nat) (i : Int) (w : World) (hv : Hid (v < 18446744073709551616)) (h0 : 0 ≤ i) (hi : i ≤ 63) (hr : v / 2 ^ i.toNat % 256 = r) :
    Calls Try.prog 28 #[.int .u64 v, .int .i64 i, .int .i64 8] w fun e w' => e = .returned (.int .u8 (r : Nat)) ∧ ∃ m, w' = w.drewN m := by
  subst hr
  exact piece64_byteI v i w hv h0 hi

theorem div_zero_iff (v k : Nat) : (((v : Int) / 2 ^ k) == 0) = decide (v < 2 ^ k) := by
  have e2 : ((v : Int) / 2 ^ k) = ((v / 2 ^ k : Nat) : Int) := by push_cast; rfl
  rw [e2, Bool.eq_iff_iff]
  have := Nat.two_pow_pos k
  rw [beq_iff_eq, decide_eq_true_iff]
  constructor
  · intro h
    have h' : v / 2 ^ k = 0 := by omega
    exact (Nat.div_eq_zero_iff.1 h').resolve_left (by omega)
  · intro h
    rw [Nat.div_eq_of_lt h]; rfl

theorem fits64_is (v : Nat) (i : Int) (b : Bool) (w : World) (h0 : 0 ≤ i) (hi : i ≤ 64) (hb : decide (v < 2 ^ i.toNat) = b) :
    Calls Try.prog 27 #[.int .u64 v, .int .i64 i] w fun e w' => e = .returned (.bool b) ∧ w = w' := by
  refine (fits64_any v i w h0).mono ?_
  rintro e w' ⟨rfl, rfl⟩
  rw [show min i.toNat 64 = i.toNat by omega, div_zero_iff, hb]
  exact ⟨rfl, rfl⟩

theorem pow256 (k : Nat) : 256 ^ k = 2 ^ (8 * k) := by rw [Nat.pow_mul]

set_option maxHeartbeats 1000000 in
set_option maxRecDepth 100000 in
theorem Big_ok (c : Ctx) (R : List HP) (n k : Nat) (w : World) (hS : St c R w) (hn : Hid (n < 18446744073709551616)) (h1 : 1 ≤ k) (h8 : k ≤ 8) (hf : n < 256 ^ k) :
    Calls Try.prog 9 #[.int .u64 n, .int .i64 k] w fun e w' => ∃ g cap, e = .returned (.tuple #[.slice (some ⟨g, 0, none⟩) k cap, .int .i64 0]) ∧ St c (row 5 1 (.slice (some ⟨g, 0, none⟩) k cap) k (bytesV (bigB n k)) :: R) w' := by
  have HS := Lib.hid hS
  have hfit : decide (n < 2 ^ (8 * (k : Int)).toNat) = true := by
    rw [decide_eq_true_iff, show (8 * (k : Int)).toNat = 8 * k by omega, ← pow256]; exact hf
  have HF := Lib.hid hfit
  clear hS hf hfit
  have hcase : 8 ≤ k ∨ k < 8 := by omega
  rcases hcase with hk8 | hk8
  all_goals
    go_enter Try.func9, Try.ntmps9
    go_wp2_with (first | (go_at_call 27; go_must (refine (fits64_is _ _ true _ (by omega) (by omega) HF.out).mono ?_); rintro e w' ⟨rfl, rfl⟩) | (at_make; go_must (refine St.make1 rfl _ _ _ rfl elemU8 rfl k rfl rfl HS.out (by omega) (by unfold maxLen; omega) ?_)))
    intro g w1 hS1
    have HS1 := Lib.hid hS1
    clear hS1
    go_wp2_with fail
    go_loopw [7, 27] (fun _ i w' => ∃ j : Nat, j ≤ k ∧ i = .int .i64 (j : Nat) ∧ Hid (St c (row 5 1 (.slice (some ⟨g, 0, none⟩) k k) k (bytesV ((bigB n k).take j ++ List.replicate (k - j) 0)) :: R) w')) (fun _ i _ => k - (intOf i).toNat)
    case atStart => exact ⟨0, by omega, by simp, by have := HS1.out; simpa [bytesV, Hid] using this⟩
    case round =>
      obtain ⟨j, hj, rfl, hS2⟩ := hrel
      by_cases hjk : j < k
      · obtain ⟨r, hr⟩ : ∃ r, n / 2 ^ (8 * ((k : Int) - 1 - j)).toNat % 256 = r := ⟨_, rfl⟩
        have hb : (bigB n k)[j]? = some r := by
          have e : (8 * ((k : Int) - 1 - j)).toNat = 8 * (k - 1 - j) := by omega
          rw [← hr, e, ← pow256]; simp [bigB, hjk]
        have hset := set_fill (bigB n k) 0 k j (bigB_length n k) hjk _ hb
        have hlen : j < (bytesV ((bigB n k).take j ++ List.replicate (k - j) 0)).length := by simp [bytesV, bigB_length]; omega
        have hc := hS2.out.row_at.cellAt j (by omega)
        rw [List.getElem?_eq_getElem hlen] at hc
        have hf := hS2.out.row_at.frozenAt j
        have HSET := Lib.hid hset
        have HR := Lib.hid hr
        generalize (bytesV ((bigB n k).take j ++ List.replicate (k - j) 0))[j] = old at *
        clear hb hset hlen hr
        go_wp2_with (go_at_call 28; go_must (refine (piece64_is _ r _ _ hn (by omega) (by omega) HR.out).mono ?_); rintro e w' ⟨rfl, m, rfl⟩)
        go_roundw
        case rel => exact ⟨j + 1, by omega, by go_num, by have := (hS2.out.drewN m).setRow j (.int .u8 (r : Nat)); rw [show (bytesV ((bigB n k).take j ++ List.replicate (k - j) 0)).set j (.int .u8 (r : Nat)) = bytesV ((bigB n k).take (j + 1) ++ List.replicate (k - (j + 1)) 0) by rw [← HSET.out]; simp [bytesV, List.map_set]] at this; exact this⟩
        case measure => simp [intOf]; omega
      · have hjk : j = k := by omega
        subst hjk
        go_wp2
        go_ret2
        refine ⟨g, _, rfl, ?_⟩
        have := hS2.out
        rw [List.take_of_length_le (by simp [bigB_length])] at this
        simpa using this

theorem Big_value (n k : Nat) (w : World) (h1 : 1 ≤ k) (h8 : k < 8) (hf : 256 ^ k ≤ n) :
    Calls Try.prog 9 #[.int .u64 n, .int .i64 k] w fun e w' => e = .returned (.tuple #[.slice none 0 0, .int .i64 12]) ∧ w = w' := by
  have hfit : decide (n < 2 ^ (8 * (k : Int)).toNat) = false := by
    rw [decide_eq_false_iff_not, show (8 * (k : Int)).toNat = 8 * k by omega, ← pow256]; omega
  have HF := Lib.hid hfit
  clear hf hfit
  go_enter Try.func9, Try.ntmps9
  go_wp2_with (go_at_call 27; go_must (refine (fits64_is _ _ false _ (by omega) (by omega) HF.out).mono ?_); rintro e w' ⟨rfl, rfl⟩)
  go_ret2
  exact ⟨rfl, rfl⟩

theorem or_byte64 (a b : Nat) (ha : a < 72057594037927936) (hb : b < 256) : bits .or .u64 ((a : Int) * 256) b = (256 * a + b : Nat) := by
  rw [show ((a : Int) * 256) = ((256 * a : Nat) : Int) by omega, u64_or_nat _ _ (by omega) (by omega)]
  congr 1
  exact nat_join 8 (256 * a) b (by omega) (by omega)

/-- A cell of a slice that reads. -/
theorem Reads.cell {w : World} {ao : Option Addr} {n cap : Nat} {xs : List Value} (h : Reads w (.slice ao n cap) xs) (i : Nat) (hi : i < xs.length) :
    ∃ b off, ao = some ⟨b, off, none⟩ ∧ w.cell? ⟨b, off + i, none⟩ = xs[i]? := by
  obtain ⟨a, m, cp, hv, _, hm, hn, ha⟩ := h
  simp only [Value.slice.injEq] at hv
  obtain ⟨rfl, rfl, rfl⟩ := hv
  cases ao with
  | none => have := (hn rfl).1; omega
  | some ad =>
    have h2 := ha ad rfl
    have h1 : ad.spot = none := by
      have h0 := h2 0 _ (List.getElem?_eq_getElem (Nat.lt_of_le_of_lt (Nat.zero_le _) hi))
      unfold World.cell? at h0
      split at h0
      · cases hs : (ad.add 0).spot with
        | none => simpa [Addr.add] using hs
        | some _ => simp [hs] at h0
      · cases h0
    obtain ⟨b, off, sp⟩ := ad
    simp only at h1
    subst h1
    have := h2 i _ (List.getElem?_eq_getElem hi)
    rw [Addr.add_lit] at this
    exact ⟨b, off, rfl, by rw [this, List.getElem?_eq_getElem hi]⟩

set_option maxHeartbeats 1000000 in
theorem Number_ok (v : Value) (bs : List Nat) (w : World) (hv : Reads w v (bytesV bs)) (h1 : 1 ≤ bs.length) (h8 : bs.length ≤ 8) (hbs : ∀ b ∈ bs, b < 256) :
    Calls Try.prog 13 #[v] w fun e w' => e = .returned (.tuple #[.int .u64 (numB bs : Nat), .int .i64 0]) ∧ ∃ m, w' = w.drewN m := by
  obtain ⟨ao, n, cap, rfl, hc, hn, -, -⟩ := id hv
  rw [bytesV_length] at hn
  subst hn
  have HV := Lib.hid hv
  have HB := Lib.hid hbs
  clear hv hbs
  go_enter Try.func13, Try.ntmps13
  go_wp2
  go_loopw [4, 6, 17] (fun v _ i w' => ∃ j : Nat, j ≤ bs.length ∧ i = .int .i64 (j : Nat) ∧ v = .int .u64 (numB (bs.take j) : Nat) ∧ Hid (∃ m, w' = w.drewN m)) (fun _ _ i _ => bs.length - (intOf i).toNat)
  case atStart => exact ⟨0, by omega, by simp, by simp [numB], ⟨0, rfl⟩⟩
  case round =>
    obtain ⟨j, hj, rfl, rfl, hq⟩ := hrel
    by_cases hjk : j < bs.length
    · obtain ⟨b, off, rfl, hcell⟩ := HV.out.cell j (by rw [bytesV_length]; exact hjk)
      have hcell' : wr.cell? ⟨b, off + j, none⟩ = some (.int .u8 (bs[j] : Nat)) := by
        obtain ⟨m, rfl⟩ := hq.out
        rw [World.cell?_drewN, hcell]; simp [bytesV, hjk]
      have hb : bs[j] < 256 := HB.out _ (List.getElem_mem _)
      have hlt : numB (bs.take j) < 256 ^ j := by
        have := numB_lt (bs.take j) (fun b hb => HB.out b (List.mem_of_mem_take hb))
        rwa [List.length_take, Nat.min_eq_left (by omega)] at this
      have hlt2 : numB (bs.take j) < 72057594037927936 := Nat.lt_of_lt_of_le hlt (Nat.le_trans (Nat.pow_le_pow_right (by decide) (show j ≤ 7 by omega)) (by decide))
      have HSN := Lib.hid (show numB (bs.take (j + 1)) = 256 * numB (bs.take j) + bs[j] by rw [List.take_succ_eq_append_getElem hjk, numB_snoc])
      have HOR := Lib.hid (or_byte64 (numB (bs.take j)) bs[j] hlt2 hb)
      clear hcell hlt
      generalize bs[j] = bt at *
      go_wp2
      go_roundw
      case rel => exact ⟨j + 1, by omega, by go_num, by rw [HSN.out, ← HOR.out], hq.out⟩
      case measure => simp [intOf]; omega
    · have hjk : j = bs.length := by omega
      subst hjk
      go_wp2
      go_ret2
      refine ⟨?_, hq.out⟩
      rw [List.take_of_length_le (Nat.le_refl _)]
      rfl

theorem pick_any (x n : Int) (w : World) (h1 : -9223372036854775808 ≤ x) (h2 : x ≤ 9223372036854775807) (hn : 1 ≤ n) :
    Calls Try.prog 17 #[.int .i64 x, .int .i64 n] w fun e w' => e = .returned (.int .i64 ((if x < 0 then -(x + 1) else x) % n)) ∧ w = w' := by
  by_cases h : x < 0
  · rw [if_pos h]
    go_enter Try.func17, Try.ntmps17
    go_wp2
    go_ret
    refine ⟨?_, rfl⟩
    rw [← Int.tmod_eq_emod_of_nonneg (by omega), Int.neg_tmod]
    rfl
  · rw [if_neg h]
    go_enter Try.func17, Try.ntmps17
    go_wp2
    go_ret
    exact ⟨rfl, rfl⟩

theorem Put_I (c : Ctx) (R : List HP) (g : Nat) (l l' : List Bool) (v n : Int) (w : World) (hS : St c (writer g l :: R) w) (h0 : 0 ≤ n) (hn : n ≤ 32) (hv0 : 0 ≤ v) (hv : v.toNat < 2 ^ n.toNat) (hl : l.length ≤ 562949953421312) (hl' : l ++ bitsOf v.toNat n.toNat = l') :
    Calls Try.prog 19 #[.pointer (some ⟨g, 0, none⟩), .int .u32 v, .int .i64 n] w fun e w' => e = .returned (.int .i64 0) ∧ St c (writer g l' :: R) w' := by
  subst hl'
  obtain ⟨v, rfl⟩ := Int.eq_ofNat_of_zero_le hv0
  obtain ⟨n, rfl⟩ := Int.eq_ofNat_of_zero_le h0
  exact Put_ok c R g l v n w hS (by omega) hv hl

set_option maxHeartbeats 1000000 in
/-- The chapter's example. -/
theorem alive_ok (c : Ctx) (R : List HP) (w : World) (hS : St c R w) :
    Calls Try.prog 8 #[] w fun e w' => e = .returned (.bool true) ∧ St c R w' := by
  have H := Lib.hid hS
  clear hS
  go_enter Try.func8, Try.ntmps8
  go_wp2_with (first
    | (go_at_call 18; go_must (with_reducible refine (NewWriter_ok c R _ H.out).mono ?_); rintro e w1 ⟨g, rfl, hS⟩; clear H; have H := Lib.hid hS; clear hS)
    | (go_at_call 19; go_must (with_reducible refine (Put_I c R g _ _ _ _ _ H.out (by decide) (by decide) (by decide) (by decide) (by decide) rfl).mono ?_); rintro e w2 ⟨rfl, hS⟩; clear H; have H := Lib.hid hS; clear hS)
    | (go_at_call 21; go_must (with_reducible refine (Bytes_ok c R g _ _ H.out (by decide)).mono ?_); rintro e w5 ⟨g2, n, cap, rfl, hn, hS⟩; have hstr := hS.rowReads.str (P := Try.prog) (src := 24) (dst := 9) Try.underlying24 Try.underlying5 Try.underlying9; rw [show strB (pack ([] ++ bitsOf (Int.toNat 5) (Int.toNat 3) ++ bitsOf (Int.toNat 1) (Int.toNat 1) ++ bitsOf (Int.toNat 0) (Int.toNat 6))) = ⟨#[176, 0]⟩ by decide] at hstr; clear H; have H := Lib.hid hS; clear hS))
  go_ret
  exact ⟨rfl, H.out.drop.drop⟩

theorem Big_I (c : Ctx) (R : List HP) (n k : Nat) (w : World) (hS : St c R w) (hn : Hid (n < 18446744073709551616)) (h1 : 1 ≤ k) (h8 : k ≤ 8) (hf : n < 256 ^ k) :
    Calls Try.prog 9 #[.int .u64 n, .int .i64 k] w fun e w' => ∃ g cap, e = .returned (.tuple #[.slice (some ⟨g, 0, none⟩) k cap, .int .i64 0]) ∧ ∃ bs, Hid (bs = bigB n k) ∧ St c (row 5 1 (.slice (some ⟨g, 0, none⟩) k cap) k (bytesV bs) :: R) w' := by
  refine (Big_ok c R n k w hS hn h1 h8 hf).mono ?_
  rintro e w' ⟨g, cap, rfl, h⟩
  exact ⟨g, cap, rfl, _, rfl, h⟩

theorem Number_I (v : Value) (bs : List Nat) (w : World) (hv : Reads w v (bytesV bs)) (h1 : 1 ≤ bs.length) (h8 : bs.length ≤ 8) (hbs : ∀ b ∈ bs, b < 256) (r : Nat) (hr : numB bs = r) :
    Calls Try.prog 13 #[v] w fun e w' => e = .returned (.tuple #[.int .u64 (r : Nat), .int .i64 0]) ∧ ∃ m, w' = w.drewN m := by
  subst hr
  exact Number_ok v bs w hv h1 h8 hbs

end Go.Proofs.Ythpkdephkhcgmaa
