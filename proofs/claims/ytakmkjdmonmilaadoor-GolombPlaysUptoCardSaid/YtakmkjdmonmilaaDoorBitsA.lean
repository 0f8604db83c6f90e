import Derived.Test.YtakmkjdmonmilaaDoorProg
import Derived.Test.YtakmkjdmonmilaaDoorSl
import Derived.Test.YtakmkjdmonmilaaDoorBitsP
import Derived.Test.YtakmkjdmonmilaaDoorReg
import Derived.Deep.QuietTactic
import Derived.BigQuiet
import Derived.Lib.Hide
import Derived.WalkSpells
import Derived.StillTailTactics
namespace Go.Proofs.YtakmkjdmonmilaaDoor
set_option linter.unusedSimpArgs false
set_option linter.unusedVariables false
open Go Go.RowKit

theorem fits32_any (x n : Int) (w : World) (h0 : 0 ≤ n) :
    Calls Tryd.prog 63 #[.int .u32 x, .int .i64 n] w fun e w' => e = .returned (.bool (x / 2 ^ min n.toNat 32 == 0)) ∧ w = w' := by
  go_enter Tryd.func63, Tryd.ntmps63
  go_wp2
  go_ret
  exact ⟨rfl, rfl⟩

/-- The i-th bit of a number, as a number. -/
def tbit (v i : Nat) : Nat := if v.testBit i then 1 else 0

theorem piece_bit (v i : Nat) (hv : v < 4294967296) : bits .and .u32 ((v : Int) / 2 ^ i) 1 % 256 = (tbit v i : Int) := by
  have e2 : ((v : Int) / 2 ^ i) = ((v / 2 ^ i : Nat) : Int) := by push_cast; rfl
  rw [e2, show ((1 : Int)) = ((1 : Nat) : Int) by decide]
  have hlt : v / 2 ^ i < 4294967296 := Nat.lt_of_le_of_lt (Nat.div_le_self _ _) hv
  rw [u32_and_nat _ _ hlt (by decide)]
  unfold tbit
  rw [Nat.testBit_eq_decide_div_mod_eq, Nat.and_one_is_mod]
  have : v / 2 ^ i % 2 = 0 ∨ v / 2 ^ i % 2 = 1 := by omega
  rcases this with h | h <;> simp [h]

theorem piece32_bit (v i : Nat) (w : World) (hv : v < 4294967296) (hi : i ≤ 31) :
    Calls Tryd.prog 64 #[.int .u32 v, .int .i64 i, .int .i64 1] w fun e w' => e = .returned (.int .u8 (tbit v i)) ∧ ∃ m, w' = w.drewN m := by
  have H := Lib.hid (piece_bit v i hv)
  go_enter Tryd.func64, Tryd.ntmps64
  go_wp2
  go_quiet (fail)
  go_wp2
  go_ret
  refine ⟨?_, _, rfl⟩
  rw [← H.out]
  rfl

theorem piece32_bitI (v : Nat) (i : Int) (w : World) (hv : v < 4294967296) (h0 : 0 ≤ i) (hi : i ≤ 31) :
    Calls Tryd.prog 64 #[.int .u32 v, .int .i64 i, .int .i64 1] w fun e w' => e = .returned (.int .u8 (tbit v i.toNat)) ∧ ∃ m, w' = w.drewN m := by
  obtain ⟨k, rfl⟩ := Int.eq_ofNat_of_zero_le h0
  exact piece32_bit v k w hv (by omega)

theorem tbit_lt (v i : Nat) : tbit v i < 2 := by unfold tbit; split <;> omega

/-- What '|=' leaves in the byte. -/
theorem or_byte (l : List Bool) (v i : Nat) : bits .or .u8 (byteN l (l.length / 8) : Nat) (((tbit v i : Nat) : Int) * 2 ^ (7 - l.length % 8) % 256) = (byteN (l ++ [v.testBit i]) (l.length / 8) : Nat) := by
  have hb := byteN_lt l (l.length / 8)
  have ht : tbit v i * 2 ^ (7 - l.length % 8) < 256 := by
    have h1 : 2 ^ (7 - l.length % 8) ≤ 2 ^ 7 := Nat.pow_le_pow_right (by decide) (by omega)
    have h2 := tbit_lt v i
    have h3 : tbit v i * 2 ^ (7 - l.length % 8) ≤ 1 * 2 ^ 7 := Nat.mul_le_mul (by omega) h1
    omega
  have e : ((tbit v i : Nat) : Int) * 2 ^ (7 - l.length % 8) % 256 = ((tbit v i * 2 ^ (7 - l.length % 8) : Nat) : Int) := by
    rw [show ((tbit v i : Nat) : Int) * 2 ^ (7 - l.length % 8) = ((tbit v i * 2 ^ (7 - l.length % 8) : Nat) : Int) by push_cast; rfl]
    omega
  rw [e, u8_or_nat _ _ hb ht, ← byteN_or]
  rfl

def bytesV (l : List Nat) : List Value := l.map fun b : Nat => .int .u8 (b : Int)

/-- A writer of the program's that has these bits. -/
def writer (g : Nat) (l : List Bool) : HP :=
  HP.ex fun v => (blk g [v, .int .i64 (l.length : Nat)] 81).star (row 5 1 v (pack l).length (bytesV (pack l)))

theorem elemU8 : Elem Tryd.prog 48 5 (.int .u8 0) 1 1 := ⟨Tryd.underlying48, by kernel_rfl, rfl, by decide⟩

theorem St.toWriter {c : Ctx} {R : List HP} {g : Nat} {l : List Bool} {v : Value} {w : World}
    (h : St c (blk g [v, .int .i64 (l.length : Nat)] 81 :: row 5 1 v (pack l).length (bytesV (pack l)) :: R) w) : St c (writer g l :: R) w := St.close (A := fun v => (blk g [v, .int .i64 (l.length : Nat)] 81).star (row 5 1 v (pack l).length (bytesV (pack l)))) v (St.unstar h)

theorem fit_of (v n : Nat) (hv : v < 2 ^ n) : (!((v : Int) / 2 ^ n == 0)) = false := by
  have e2 : ((v : Int) / 2 ^ n) = ((v / 2 ^ n : Nat) : Int) := by push_cast; rfl
  rw [e2, Nat.div_eq_of_lt hv]; rfl

theorem put_step {c : Ctx} {R : List HP} {g g2 cp : Nat} {l : List Bool} {b : Bool} {xs : List Nat} {w2 : World} {m : Nat} {X N : Int}
    (h : St c (blk g [.slice (some ⟨g2, 0, none⟩) xs.length cp, .int .i64 (l.length : Nat)] 81 :: row 5 1 (.slice (some ⟨g2, 0, none⟩) xs.length cp) xs.length (bytesV xs) :: R) w2)
    (hset : pack (l ++ [b]) = xs.set (l.length / 8) (byteN (l ++ [b]) (l.length / 8))) (hX : X = (byteN (l ++ [b]) (l.length / 8) : Nat)) (hN : N = (l.length : Int) + 1) :
    St c (writer g (l ++ [b]) :: R) (((w2.drewN m).setCell ⟨g2, l.length / 8, none⟩ (.int .u8 X)).setCell ⟨g, 1, none⟩ (.int .i64 N)) := by
  subst hX
  subst hN
  have h1 := ((h.swap.drewN m).setRow (l.length / 8) (.int .u8 (byteN (l ++ [b]) (l.length / 8) : Nat))).swap.setCell 1 (.int .i64 ((l.length : Int) + 1))
  have e1 : (bytesV xs).set (l.length / 8) (.int .u8 (byteN (l ++ [b]) (l.length / 8) : Nat)) = bytesV (pack (l ++ [b])) := by rw [hset]; simp [bytesV, List.map_set]
  have e2 : xs.length = (pack (l ++ [b])).length := by rw [hset]; simp
  rw [e1] at h1
  refine St.close (.slice (some ⟨g2, 0, none⟩) xs.length cp) (St.unstar ?_)
  rw [← e2]
  simpa using h1

set_option maxRecDepth 100000 in
theorem Put_ok (c : Ctx) (R : List HP) (g : Nat) (l : List Bool) (v n : Nat) (w : World) (hS : St c (writer g l :: R) w) (hn : n ≤ 32) (hv : v < 2 ^ n) (hl : l.length ≤ 562949953421312) :
    Calls Tryd.prog 38 #[.pointer (some ⟨g, 0, none⟩), .int .u32 v, .int .i64 n] w fun e w' => e = .returned (.int .i64 0) ∧ St c (writer g (l ++ bitsOf v n) :: R) w' := by
  have HS := Lib.hid hS
  clear hS
  have hv32 : v < 4294967296 := Nat.lt_of_lt_of_le hv (Nat.pow_le_pow_right (by decide) hn)
  have hfit := fit_of v n hv
  go_enter Tryd.func38, Tryd.ntmps38
  go_wp2_with (go_at_call 63; refine (fits32_any _ _ _ (by omega)).mono ?_; rintro e w' ⟨rfl, rfl⟩)
  clear hfit
  go_loopw [7] (fun i w' => ∃ k : Nat, k ≤ n ∧ i = .int .i64 ((n : Int) - 1 - k) ∧ Hid (St c (writer g (l ++ (bitsOf v n).take k) :: R) w')) (fun i _ => (intOf i + 1).toNat)
  case atStart => exact ⟨0, by omega, by simp, by simpa using HS⟩
  case round =>
    obtain ⟨k, hk, rfl, hS⟩ := hrel
    have hlen : (l ++ (bitsOf v n).take k).length = l.length + k := by simp [bitsOf_length]; omega
    by_cases hlt : k < n
    · have hnext := bitsOf_take_succ v n k hlt
      have Hnext : Hid (l ++ (bitsOf v n).take (k + 1) = (l ++ (bitsOf v n).take k) ++ [v.testBit (n - 1 - k)]) := by rw [hnext]; simp [Hid]
      clear hnext
      generalize l ++ (bitsOf v n).take k = l' at *
      obtain ⟨vb, hS⟩ := hS.out.open_
      have hS := hS.star
      have c0 := hS.cell 0
      have c1 := hS.cell 1
      simp only [List.getElem?_cons_zero, List.getElem?_cons_succ] at c0 c1
      have f0 := hS.frozen 0
      have f1 := hS.frozen 1
      have HS1 := Lib.hid hS
      clear hS
      have hl' : l'.length ≤ 562949953421344 := by omega
      clear hlen
      by_cases h8 : l'.length % 8 = 0
      · have t8 : (((l'.length : Int) % 8) == 0) = true := by rw [beq_iff_eq]; omega
        go_wp2_with (at_builtin; go_must (refine St.append1 rfl (.tmp 34) (.tmp 35) _ rfl elemU8 rfl HS1.out.swap (.int .u8 0) _ rfl rfl (by simp [pack_length]; omega) (by simp [pack_length, maxLen]; omega) ?_))
        intro g2 cp2 w1 hcp hS2
        have hS3 := hS2.swap
        have c0' := hS3.cell 0
        have c1' := hS3.cell 1
        simp only [List.getElem?_cons_zero, List.getElem?_cons_succ] at c0' c1'
        have f0' := hS3.frozen 0
        have f1' := hS3.frozen 1
        clear c0 c1 f0 f1 t8 hS2
        have HS4 := Lib.hid (hS3.setCell 0 (.slice (some ⟨g2, 0, none⟩) ((pack l').length + 1) cp2))
        clear hS3
        go_wp2_with fail
        have hlp : (pack l').length = l'.length / 8 := by rw [pack_length]; omega
        have hx : (pack l' ++ [0])[l'.length / 8]? = some (byteN l' (l'.length / 8)) := by rw [List.getElem?_append_right (by omega), hlp, byteN_new l' h8]; simp
        have hset := pack_snoc_new l' h8 (v.testBit (n - 1 - k))
        have hN : (pack l').length + 1 = (pack l' ++ [0]).length := by simp
        have hxs : bytesV (pack l') ++ [Value.int IntKind.u8 0] = bytesV (pack l' ++ [0]) := by simp [bytesV]
        rw [hxs] at HS4
        rw [hN] at HS4 hcp ⊢
        have hlN : (pack l' ++ [0]).length = l'.length / 8 + 1 := by rw [← hN, hlp]
        clear c0' c1' f0' f1' hN hxs hlp
        generalize w1.setCell ⟨g, 0, none⟩ (.slice (some ⟨g2, 0, none⟩) (pack l' ++ [0]).length cp2) = w2 at *
        generalize pack l' ++ [0] = xs at *
        simp only [List.set_cons_zero] at HS4
        clear HS1
        have p0 := HS4.out.cell 0
        have p1 := HS4.out.cell 1
        simp only [List.getElem?_cons_zero, List.getElem?_cons_succ] at p0 p1
        have pf1 := HS4.out.frozen 1
        have p2 : w2.cell? ⟨g2, l'.length / 8, none⟩ = some (.int .u8 (byteN l' (l'.length / 8) : Nat)) := by
          rw [HS4.out.swap.row_at.cellAt _ (by omega)]; simp [bytesV, hx]
        have pf2 : w2.frozen? ⟨g2, l'.length / 8, none⟩ = false := HS4.out.swap.row_at.frozenAt _
        have HX := Lib.hid hx
        have HSET := Lib.hid hset
        clear hx hset
        have hor := or_byte l' v (n - 1 - k)
        generalize byteN l' (l'.length / 8) = bt at *
        have HOR := Lib.hid hor
        have hne := HS4.out.ne_row
        have H8 := Lib.hid h8
        clear hor h8
        refine wp_region_head_tail 23 (by kernel_rfl) (by kernel_rfl) ?_
        simp only [List.take_succ_cons, List.take_zero, List.drop_succ_cons, List.drop_zero]
        repeat (go_big_quiet_step ((go_at_call 64; exact Calls.quiet_of (piece32_bitI _ _ _ hv32 (by omega) (by omega)))))
        refine wpQuiet_nil ?_
        intro m
        go_wp2_with fail
        go_roundw
        case rel => exact ⟨k + 1, by omega, by go_num, by rw [Hnext.out]; exact put_step HS4.out HSET.out HOR.out rfl⟩
        case measure => simp [intOf]; omega
      · have t8 : (((l'.length : Int) % 8) == 0) = false := by rw [beq_eq_false_iff_ne]; omega
        obtain ⟨g2, cp2, rfl, hcp, -, -, -⟩ := HS1.out.swap.rowAt (by rw [pack_length]; omega)
        go_wp2_with fail
        have hlN : (pack l').length = l'.length / 8 + 1 := by rw [pack_length]; omega
        have hx : (pack l')[l'.length / 8]? = some (byteN l' (l'.length / 8)) := pack_get _ _ (by omega)
        have hset := pack_snoc_in l' h8 (v.testBit (n - 1 - k))
        have HS4 := HS1
        clear HS1 c0 c1 f0 f1 t8 hS
        generalize pack l' = xs at *
        obtain ⟨w2, rfl⟩ : ∃ w2 : World, w2 = wr := ⟨_, rfl⟩
        have p0 := HS4.out.cell 0
        have p1 := HS4.out.cell 1
        simp only [List.getElem?_cons_zero, List.getElem?_cons_succ] at p0 p1
        have pf1 := HS4.out.frozen 1
        have p2 : w2.cell? ⟨g2, l'.length / 8, none⟩ = some (.int .u8 (byteN l' (l'.length / 8) : Nat)) := by
          rw [HS4.out.swap.row_at.cellAt _ (by omega)]; simp [bytesV, hx]
        have pf2 : w2.frozen? ⟨g2, l'.length / 8, none⟩ = false := HS4.out.swap.row_at.frozenAt _
        have HX := Lib.hid hx
        have HSET := Lib.hid hset
        clear hx hset
        have hor := or_byte l' v (n - 1 - k)
        generalize byteN l' (l'.length / 8) = bt at *
        have HOR := Lib.hid hor
        have hne := HS4.out.ne_row
        have H8 := Lib.hid h8
        clear hor h8
        refine wp_region_head_tail 23 (by kernel_rfl) (by kernel_rfl) ?_
        simp only [List.take_succ_cons, List.take_zero, List.drop_succ_cons, List.drop_zero]
        repeat (go_big_quiet_step ((go_at_call 64; exact Calls.quiet_of (piece32_bitI _ _ _ hv32 (by omega) (by omega)))))
        refine wpQuiet_nil ?_
        intro m
        go_wp2_with fail
        go_roundw
        case rel => exact ⟨k + 1, by omega, by go_num, by rw [Hnext.out]; exact put_step HS4.out HSET.out HOR.out rfl⟩
        case measure => simp [intOf]; omega
    · have hkn : k = n := by omega
      subst hkn
      go_wp2
      go_ret
      refine ⟨rfl, ?_⟩
      have := hS.out
      rwa [List.take_of_length_le (by simp [bitsOf_length])] at this

end Go.Proofs.YtakmkjdmonmilaaDoor
