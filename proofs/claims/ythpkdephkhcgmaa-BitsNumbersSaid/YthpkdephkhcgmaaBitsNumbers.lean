import Derived.Test.YthpkdephkhcgmaaNumP
import Derived.Test.YthpkdephkhcgmaaBk8C
import Derived.Test.YthpkdephkhcgmaaBk8D
import Derived.Test.YthpkdephkhcgmaaKArg
import Derived.Test.YthpkdephkhcgmaaRowC
import Derived.Test.YthpkdephkhcgmaaPlaneS
/-! BitsNumbers. -/
namespace Go.Proofs.Ythpkdephkhcgmaa
set_option linter.unusedSimpArgs false
set_option linter.unusedVariables false
open Go Go.RowKit Go.WideShapes Go.Proofs.Ythpkdephkhcgmaa.PPn Go.Proofs.YthpkdephkhcgmaaW.PrintWords

theorem St.bring {c : Ctx} {L : List HP} {w : World} (h : St c L w) (i : Nat) (hi : i < L.length := by simp only [List.length_cons]; omega) : St c (L[i] :: L.eraseIdx i) w := h.perm (perm_pick L i hi)
theorem bigF_len (n : Nat) (b : Int) : (bigF n b).1.length ≤ 268435456 := by
  unfold bigF
  by_cases h : b < 1 ∨ 8 < b
  · rw [if_pos h]; decide
  · rw [if_neg h]
    by_cases h2 : n < 256 ^ b.toNat
    · rw [if_pos h2]; show (bigI n b.toNat).length ≤ _; rw [bigI_length]; omega
    · rw [if_neg h2]; decide
set_option maxHeartbeats 1000000 in
set_option maxRecDepth 100000 in
theorem big_st (c : Ctx) (R : List HP) (w : World) (hS : St c R w) (N : Nat) (hN : N < 18446744073709551616) (b : Int) :
    Calls Try.prog 9 #[.int .u64 N, .int .i64 b] w fun e w' => ∃ v, e = .returned (.tuple #[v, .int .i64 (bigF N b).2]) ∧ St c (inner 5 .u8 v (bigF N b).1 :: R) w' := by
  by_cases hb : b < 1 ∨ 8 < b
  · have H := Lib.hid hS
    have e : bigF N b = ([], 11) := if_pos hb
    rw [e]
    clear hS e
    by_cases h1 : b < 1
    · clear hb
      go_enter Try.func9, Try.ntmps9
      go_wp2_with fail
      go_ret2
      exact ⟨_, rfl, H.out.nilRow _ _⟩
    · have h2 : 8 < b := by omega
      clear hb
      go_enter Try.func9, Try.ntmps9
      go_wp2_with fail
      go_ret2
      exact ⟨_, rfl, H.out.nilRow _ _⟩
  · obtain ⟨k, rfl⟩ : ∃ k : Nat, b = k := ⟨b.toNat, by omega⟩
    have e : bigF N (k : Int) = if N < 256 ^ k then (bigI N k, 0) else ([], 12) := by unfold bigF; rw [if_neg hb, Int.toNat_natCast]
    by_cases hf : N < 256 ^ k
    · rw [if_pos hf] at e
      rw [e]
      refine (Big_ok c R N k w hS (Lib.hid hN) (by omega) (by omega) hf).mono ?_
      rintro en w' ⟨g, cap, rfl, h⟩
      refine ⟨_, rfl, ?_⟩
      unfold inner
      rw [bigI_length, bigI_B]
      exact h
    · rw [if_neg hf] at e
      rw [e]
      have hk : k < 8 := by
        rcases Nat.lt_or_ge k 8 with h | h
        · exact h
        · obtain rfl : k = 8 := by omega
          have : (256 : Nat) ^ 8 = 18446744073709551616 := by decide
          omega
      refine (Big_value N k w (by omega) hk (by omega)).mono ?_
      rintro en w' ⟨rfl, rfl⟩
      exact ⟨_, rfl, hS.nilRow _ _⟩
theorem rbig_st (c : Ctx) (R : List HP) (w : World) (hS : St c R w) (N : Nat) (hN : N < 18446744073709551616) (b : Int) :
    Calls Try.prog 10 #[.int .u64 N, .int .i64 b] w fun e w' => ∃ v, e = .returned (.tuple #[v, .int .i64 (bigF N b).2]) ∧ St c (inner 5 .u8 v (bigF N b).1 :: R) w' := by
  refine (dailiesref01_Big.calls 20 N b (bigF N b).1 (bigF N b).2 w (rbig_f N b hN)).mono ?_
  rintro en w' ⟨v, rfl, hR, hb⟩
  exact ⟨v, rfl, hS.of_R hb hR⟩

theorem num_st (R : List HP) (W w : World) (A : Option Addr) (n cap : Nat) (l : List Int) (hn : l.length = n) (hS : St (top W) R w) (hC : Kd.C (Kd.int .u8) w A n l) (hc : n ≤ cap) (hu : ∀ v ∈ l, 0 ≤ v ∧ v ≤ 255) (x y : Int) (hx : numF l = (x, y)) :
    Calls Try.prog 13 #[.slice A n cap] w fun e w' => e = .returned (.tuple #[.int .u64 x, .int .i64 y]) ∧ St (top W) R w' := by
  subst hn
  have h := num_f l hu
  rw [hx] at h
  refine (bits_Number.calls 20 A cap l x y w hC hc h).mono ?_
  rintro e w' ⟨rfl, hd⟩
  exact ⟨rfl, hS.of_below hd.below⟩
theorem rnum_st (R : List HP) (W w : World) (A : Option Addr) (n cap : Nat) (l : List Int) (hn : l.length = n) (hS : St (top W) R w) (hC : Kd.C (Kd.int .u8) w A n l) (hc : n ≤ cap) (hu : ∀ v ∈ l, 0 ≤ v ∧ v ≤ 255) (x y : Int) (hx : numF l = (x, y)) :
    Calls Try.prog 14 #[.slice A n cap] w fun e w' => e = .returned (.tuple #[.int .u64 x, .int .i64 y]) ∧ St (top W) R w' := by
  subst hn
  have h := rnum_f l hu
  rw [hx] at h
  refine (dailiesref01_Number.calls 20 A cap l x y w hC hc h).mono ?_
  rintro e w' ⟨rfl, hd⟩
  exact ⟨rfl, hS.of_below hd.below⟩

set_option maxHeartbeats 16000000 in
set_option maxRecDepth 100000 in
theorem bitsNumbers_walk {H : Type} {enc : TypeId × Value → H} (W : World) (base : Nat) (v0 v1 v2 : Value) (a0 : Arg enc Try.prog W base 23 v0) (a1 : Arg enc Try.prog W base 3 v1) (a2 : Arg enc Try.prog W base 24 v2) :
    Calls Try.prog 4 #[v0, v1, v2] W fun e W' => e = .returned (.bool true) ∧ Below W.heap.size W W' := by
  obtain ⟨n, rfl, wn⟩ := arg_int Try.underlying23 a0
  obtain ⟨b, rfl, wb⟩ := arg_int Try.underlying3 a1
  obtain ⟨A, cap, l, rfl, hcap, hC, hbd, hwf⟩ := C_ints (k := .u8) (e := 5) (B := 1) Try.underlying24 Try.underlying5 (by kernel_rfl) (by kernel_rfl) (by decide) (arg_slice Try.underlying24 a2)
  have hnb := bounds_u64 wn
  clear a0 a1 a2 wb wn
  obtain ⟨N, rfl⟩ := Int.eq_ofNat_of_zero_le hnb.1
  have hN : N < 18446744073709551616 := by have := hnb.2; omega
  have hll : l.length ≤ 140737488351232 := by omega
  have hu : ∀ v ∈ l, 0 ≤ v ∧ v ≤ 255 := fun v hv => bounds_u8 (hwf v hv)
  have hM : N / 2 + 1 < 18446744073709551616 := by omega
  obtain ⟨FL, e1, hF⟩ : ∃ x y, bigF N b = (x, y) := ⟨_, _, rfl⟩
  obtain ⟨FM, e2, hG⟩ : ∃ x y, bigF (N / 2 + 1) 8 = (x, y) := ⟨_, _, rfl⟩
  have lF := bigF_len N b
  have lG := bigF_len (N / 2 + 1) 8
  rw [hF] at lF
  rw [hG] at lG
  have B1 : Hid (∀ R w, St (top W) R w → Calls Try.prog 9 #[.int .u64 N, .int .i64 b] w fun e w' => ∃ v, e = .returned (.tuple #[v, .int .i64 e1]) ∧ St (top W) (inner 5 .u8 v FL :: R) w') := by
    intro R w h
    have := big_st (top W) R w h N hN b
    rw [hF] at this
    exact this
  have hq : IntKind.u64.wrap (IntKind.u64.wrap ((N : Int) / 2) + 1) = ((N / 2 + 1 : Nat) : Int) := by
    rw [IntKind.wrap_u64, IntKind.wrap_u64]
    omega
  have B2 : Hid (∀ R w, St (top W) R w → Calls Try.prog 9 #[.int .u64 (IntKind.u64.wrap (IntKind.u64.wrap ((N : Int) / 2) + 1)), .int .i64 8] w fun e w' => ∃ v, e = .returned (.tuple #[v, .int .i64 e2]) ∧ St (top W) (inner 5 .u8 v FM :: R) w') := by
    intro R w h
    have := big_st (top W) R w h (N / 2 + 1) hM 8
    rw [hG] at this
    rw [hq]
    exact this
  have D1 : Hid (∀ R w, St (top W) R w → Calls Try.prog 10 #[.int .u64 N, .int .i64 b] w fun e w' => ∃ v, e = .returned (.tuple #[v, .int .i64 e1]) ∧ St (top W) (inner 5 .u8 v FL :: R) w') := by
    intro R w h
    have := rbig_st (top W) R w h N hN b
    rw [hF] at this
    exact this
  have D2 : Hid (∀ R w, St (top W) R w → Calls Try.prog 10 #[.int .u64 (IntKind.u64.wrap (IntKind.u64.wrap ((N : Int) / 2) + 1)), .int .i64 8] w fun e w' => ∃ v, e = .returned (.tuple #[v, .int .i64 e2]) ∧ St (top W) (inner 5 .u8 v FM :: R) w') := by
    intro R w h
    have := rbig_st (top W) R w h (N / 2 + 1) hM 8
    rw [hG] at this
    rw [hq]
    exact this
  obtain ⟨nx, ny, hX⟩ : ∃ x y, numF l = (x, y) := ⟨_, _, rfl⟩
  obtain ⟨ox, oy, hY⟩ : ∃ x y, numF (backL8 l) = (x, y) := ⟨_, _, rfl⟩
  have HX := Lib.hid hX
  have HY := Lib.hid hY
  obtain ⟨nb, hnB⟩ : ∃ q, l.length = q := ⟨_, rfl⟩
  have HC := Lib.hid hC
  have HU := Lib.hid hu
  have HLF := Lib.hid lF
  have HLG := Lib.hid lG
  have HLL := Lib.hid hll
  have HNB := Lib.hid hnB
  have HS := Lib.hid (St.top W)
  clear hC hu lF lG hll hnB hF hG hM hN hnb hwf hbd hq hX hY
  go_enter Try.func4, Try.ntmps4
  go_wp2_with fail
  refine (alive_ok (top W) _ _ HS.out).mono ?_
  rintro en w1 ⟨rfl, hS1⟩
  have HS1 := Lib.hid (St.book8New (hS1.alloc' rfl [.slice none 0 0, .slice none 0 0] 28))
  clear hS1 HS
  go_wp2_with fail
  refine (B1.out _ _ HS1.out).mono ?_
  rintro en w2 ⟨vl, rfl, hS2⟩
  have HS2 := Lib.hid hS2
  clear hS2 HS1
  go_wp2_with fail
  refine (B2.out _ _ HS2.out).mono ?_
  rintro en w3 ⟨vm, rfl, hS3⟩
  have HS3 := Lib.hid hS3
  clear hS3 HS2
  go_wp2_with fail
  refine (B1.out _ _ HS3.out).mono ?_
  rintro en w4 ⟨va, rfl, hS4⟩
  have HS4 := Lib.hid hS4
  clear hS4 HS3
  go_wp2_with fail
  refine (B1.out _ _ HS4.out).mono ?_
  rintro en w5 ⟨vt, rfl, hS5⟩
  have HS5 := Lib.hid hS5
  clear hS5 HS4
  go_wp2_with fail
  refine (D1.out _ _ HS5.out).mono ?_
  rintro en w6 ⟨vw, rfl, hS6⟩
  have HS6 := Lib.hid hS6
  clear hS6 HS5
  go_wp2_with fail
  refine (D2.out _ _ HS6.out).mono ?_
  rintro en w7 ⟨vo, rfl, hS7⟩
  have HS7 := Lib.hid hS7
  clear hS7 HS6
  obtain ⟨Ao, co, rfl, -, ko⟩ := HS7.out.innerC
  obtain ⟨Aw, cw, rfl, -, kw⟩ := (HS7.out.bring 1).innerC
  obtain ⟨At, ct, rfl, -, kt⟩ := (HS7.out.bring 2).innerC
  obtain ⟨Aa, ca, rfl, -, ka⟩ := (HS7.out.bring 3).innerC
  obtain ⟨Am, cm, rfl, -, km⟩ := (HS7.out.bring 4).innerC
  obtain ⟨Al, cl, rfl, -, kl⟩ := (HS7.out.bring 5).innerC
  have so := conv8_ok _ co ko
  have sw := conv8_ok _ cw kw
  have st := conv8_ok _ ct kt
  have sa := conv8_ok _ ca ka
  have sm := conv8_ok _ cm km
  have sl := conv8_ok _ cl kl
  clear ko kw kt ka km kl
  obtain ⟨nF, hnF⟩ : ∃ q, FL.length = q := ⟨_, rfl⟩
  obtain ⟨nM, hnM⟩ : ∃ q, FM.length = q := ⟨_, rfl⟩
  obtain ⟨sF, hsF⟩ : ∃ q, strOfNums FL = q := ⟨_, rfl⟩
  obtain ⟨sM, hsM⟩ : ∃ q, strOfNums FM = q := ⟨_, rfl⟩
  rw [hnM, hsM] at so sm
  rw [hnF, hsF] at sw st sa sl
  rw [hnF, hnM] at HS7
  have q1 : (e1 != e1) = false := by simp
  have q2 : (e2 != e2) = false := by simp
  clear hsF hsM
  go_wp2_with fail
  clear so sw st sa sm sl q1 q2
  have hk : St (top W) (book8 w1.heap.size [] :: inner 5 .u8 (.slice Al nF cl) FL :: [inner 5 .u8 (.slice Ao nM co) FM, inner 5 .u8 (.slice Aw nF cw) FL, inner 5 .u8 (.slice At nF ct) FL, inner 5 .u8 (.slice Aa nF ca) FL, inner 5 .u8 (.slice Am nM cm) FM]) w7 := HS7.out.reo 7 [6, 5, 0, 1, 2, 3, 4] (by decide)
  refine (keep8_ok (top W) _ _ _ _ _ _ hk HLF.out (by simp)).mono ?_
  rintro en w8 ⟨rfl, hS8⟩
  have HS8 := Lib.hid hS8
  clear hS8 HS7 hk
  go_wp2_with fail
  have hk : St (top W) (book8 w1.heap.size ([] ++ [FL]) :: inner 5 .u8 (.slice Am nM cm) FM :: [inner 5 .u8 (.slice Ao nM co) FM, inner 5 .u8 (.slice Aw nF cw) FL, inner 5 .u8 (.slice At nF ct) FL, inner 5 .u8 (.slice Aa nF ca) FL]) w8 := HS8.out.reo 6 [0, 5, 1, 2, 3, 4] (by decide)
  refine (keep8_ok (top W) _ _ _ _ _ _ hk HLG.out (by simp)).mono ?_
  rintro en w9 ⟨rfl, hS9⟩
  have HS9 := Lib.hid hS9
  clear hS9 HS8 hk
  go_wp2_with fail
  have hk : St (top W) (book8 w1.heap.size (([] ++ [FL]) ++ [FM]) :: inner 5 .u8 (.slice Aa nF ca) FL :: [inner 5 .u8 (.slice Ao nM co) FM, inner 5 .u8 (.slice Aw nF cw) FL, inner 5 .u8 (.slice At nF ct) FL]) w9 := HS9.out.reo 5 [0, 4, 1, 2, 3] (by decide)
  refine (keep8_ok (top W) _ _ _ _ _ _ hk HLF.out (by simp)).mono ?_
  rintro en w10 ⟨rfl, hS10⟩
  have HS10 := Lib.hid hS10
  clear hS10 HS9 hk
  go_wp2_with fail
  have hk : St (top W) (book8 w1.heap.size ((([] ++ [FL]) ++ [FM]) ++ [FL]) :: inner 5 .u8 (.slice At nF ct) FL :: [inner 5 .u8 (.slice Ao nM co) FM, inner 5 .u8 (.slice Aw nF cw) FL]) w10 := HS10.out.reo 4 [0, 3, 1, 2] (by decide)
  refine (keep8_ok (top W) _ _ _ _ _ _ hk HLF.out (by simp)).mono ?_
  rintro en w11 ⟨rfl, hS11⟩
  have HS11 := Lib.hid hS11
  clear hS11 HS10 hk
  go_wp2_with fail
  refine (lent8_ok w11 A cap l (Kd.C_below HC.out HS11.out.below) (by have := HLL.out; omega)).mono ?_
  rintro en w12 ⟨g, rfl, hS12⟩
  have hf12 := HS11.out.frame hS12
  simp only [List.cons_append, List.nil_append] at hf12
  have HS12 := Lib.hid hf12
  clear hS12 HS11 hf12
  go_wp2_with fail
  refine (num_st _ W _ _ _ _ l rfl HS12.out (lentRow8C HS12.out) (by omega) HU.out nx ny HX.out).mono ?_
  rintro en w13 ⟨rfl, hS13⟩
  have HS13 := Lib.hid hS13
  clear hS13 HS12
  go_wp2_with fail
  refine (rnum_st _ W _ _ _ _ l rfl HS13.out (Kd.C_below HC.out HS13.out.below) hcap HU.out nx ny HX.out).mono ?_
  rintro en w14 ⟨rfl, hS14⟩
  have HS14 := Lib.hid hS14
  clear hS14 HS13
  go_wp2_with fail
  refine (back8_ok (top W) _ _ g A cap l HS14.out (fun L w' h => Kd.C_below HC.out h.below) (by have := HLL.out; omega)).mono ?_
  rintro en w15 ⟨rfl, hS15⟩
  have HS15 := Lib.hid hS15
  clear hS15 HS14
  go_wp2_with fail
  refine (rnum_st _ W _ _ _ _ (backL8 l) (backL8_length l) HS15.out (overRow8C HS15.out) (by omega) (backL8_bd l HU.out) ox oy HY.out).mono ?_
  rintro en w16 ⟨rfl, hS16⟩
  have HS16 := Lib.hid hS16
  clear hS16 HS15
  go_wp2_with fail
  refine (num_st _ W _ _ _ _ (backL8 l) (backL8_length l) HS16.out (overRow8C HS16.out) (by omega) (backL8_bd l HU.out) ox oy HY.out).mono ?_
  rintro en w17 ⟨rfl, hS17⟩
  have HS17 := Lib.hid (St.swap hS17)
  clear hS17 HS16
  go_wp2_with fail
  refine (ends8_ok (top W) _ _ _ _ HS17.out (fun x hx => by have := HLF.out; have := HLG.out; simp at hx; rcases hx with rfl | rfl | rfl | rfl <;> assumption) (by simp)).mono ?_
  rintro en w18 ⟨rfl, hS18⟩
  have HS18 := Lib.hid hS18
  clear hS18 HS17
  have q1 : (ny == ny) = true := by simp
  have q2 : (oy == oy) = true := by simp
  have q3 : (nx == nx) = true := by simp
  have q4 : (ox == ox) = true := by simp
  go_wp2_with fail
  go_ret
  exact ⟨rfl, HS18.out.below⟩
end Go.Proofs.Ythpkdephkhcgmaa
