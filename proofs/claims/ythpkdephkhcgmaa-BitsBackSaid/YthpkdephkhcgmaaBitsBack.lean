import Derived.Test.YthpkdephkhcgmaaBitsL
namespace Go.Proofs.Ythpkdephkhcgmaa
set_option linter.unusedSimpArgs false
set_option linter.unusedVariables false
open Go Go.RowKit

/-- A number as it is laid down: its width, and its lowest bits. -/
def numOf (p : Nat × Int) : Nat × Nat := (p.1 % 2 ^ pickN p.2 33, pickN p.2 33)
def bitsAll (l : List (Nat × Int)) : List Bool := l.flatMap fun p => bitsOf (numOf p).1 (numOf p).2
theorem bitsAll_snoc (l : List (Nat × Int)) (p : Nat × Int) : bitsAll (l ++ [p]) = bitsAll l ++ bitsOf (numOf p).1 (numOf p).2 := by simp [bitsAll]
theorem bitsAll_append (l m : List (Nat × Int)) : bitsAll (l ++ m) = bitsAll l ++ bitsAll m := by simp [bitsAll]
theorem bitsAll_length (l : List (Nat × Int)) : (bitsAll l).length ≤ 32 * l.length := by
  induction l with
  | nil => simp [bitsAll]
  | cons p l ih =>
    have := pickN_lt p.2 33 (by decide)
    have e : bitsAll (p :: l) = bitsOf (numOf p).1 (numOf p).2 ++ bitsAll l := by simp [bitsAll]
    rw [e, List.length_append, bitsOf_length, List.length_cons]
    simp only [numOf]
    omega

def NumIs (xs : List Value) (p : Nat × Int) : Prop := xs = [.int .u32 (p.1 : Int), .int .i64 p.2] ∧ p.1 < 4294967296 ∧ (Lit.int .i64 p.2).wf = true

theorem ok_num {H : Type} {enc : TypeId × Value → H} {W : World} (xs : List Value) (h : Ok enc Try.prog W 44 xs) : ∃ p, NumIs xs p := by
  obtain ⟨h1, h2⟩ := ok_struct Try.underlying44 h
  have hlen : xs.length = 2 := h1.trans (by kernel_rfl)
  have c0 : Try.prog.cellsOf 42 = 1 := by kernel_rfl
  have c1 : Try.prog.cellsOf 3 = 1 := by kernel_rfl
  match xs, hlen with
  | [x0, x1], _ =>
    have e0 := h2 0 _ rfl
    have e1 := h2 1 _ rfl
    obtain ⟨n0, q0, w0⟩ := ok_int (k := .u32) Try.underlying42 e0
    obtain ⟨n1, q1, w1⟩ := ok_int (k := .i64) Try.underlying3 e1
    simp [c0] at q0
    simp [c1] at q1
    have hb := bounds_u32 w0
    refine ⟨(n0.toNat, n1), ?_, ?_, w1⟩
    · rw [q0, q1, Int.toNat_of_nonneg hb.1]
    · show n0.toNat < _
      omega

theorem ok_nums {H : Type} {enc : TypeId × Value → H} {W : World} {v : Value} (h : Ok enc Try.prog W 39 [v]) :
    ∃ (ao : Option Addr) (cap : Nat) (l : List (Nat × Int)), v = .slice ao l.length cap ∧ l.length ≤ cap ∧ l.length * 16 ≤ 140737488351232 ∧
      ∀ i (hi : i < l.length), ∃ b off, ao = some ⟨b, off, none⟩ ∧ W.cell? ⟨b, off + i * 2, none⟩ = some (.int .u32 (l[i].1 : Int)) ∧ W.cell? ⟨b, off + i * 2 + 1, none⟩ = some (.int .i64 l[i].2) ∧ l[i].1 < 4294967296 ∧ (Lit.int .i64 l[i].2).wf = true := by
  obtain ⟨ao, cap, l, rfl, hlc, hw, hn, ha⟩ := ok_rows NumIs Try.underlying39 ok_num (sz := 2) (B := 16) (by kernel_rfl) (by decide) (by kernel_rfl) h
  refine ⟨ao, cap, l, rfl, hlc, ?_, ?_⟩
  · have : reachBytes = 140737488351232 := rfl
    omega
  · intro i hi
    obtain ⟨b, off, xs, h1, ⟨rfl, h3, h4⟩, h5, h6⟩ := ha i hi
    exact ⟨b, off, h1, h6 0 (by decide), h6 1 (by decide), h3, h4⟩

theorem restOk_pack (l : List Bool) : restOk (pack l) l.length := by
  refine ⟨by rw [pack_length]; omega, fun k h1 h2 => ?_⟩
  rw [ubit_pack' l k (by rw [pack_length] at h2; exact h2)]
  simp [List.getD, List.getElem?_eq_none h1]

set_option maxHeartbeats 4000000 in
set_option maxRecDepth 100000 in
theorem bitsBack_walk {H : Type} {enc : TypeId × Value → H} (W : World) (base : Nat) (v0 : Value) (a0 : Arg enc Try.prog W base 39 v0) :
    Calls Try.prog 6 #[v0] W fun e W' => e = .returned (.bool true) ∧ Below W.heap.size W W' := by
  obtain ⟨ao, cap, l, rfl, hlc, hw, ha⟩ := ok_nums (arg_slice Try.underlying39 a0)
  have HA := Lib.hid ha
  clear ha a0
  have H := Lib.hid (St.top W)
  go_enter Try.func6, Try.ntmps6
  go_wp2_with (first
    | (go_at_call 8; go_must (with_reducible refine (alive_ok (top W) _ _ H.out).mono ?_); rintro e w1 ⟨rfl, hS⟩; simp only []; clear H; have H := Lib.hid hS; clear hS)
    | (go_at_call 18; go_must (with_reducible refine (NewWriter_ok (top W) _ _ H.out).mono ?_); rintro e w1 ⟨g, rfl, hS⟩; simp only []; clear H; have H := Lib.hid hS; clear hS))
  go_loopw [5, 6, 7, 8, 9] (fun sum i _ _ _ w' => ∃ k : Nat, k ≤ l.length ∧ i = .int .i64 (k : Nat) ∧ (∃ s : Nat, sum = .int .i64 (s : Nat) ∧ Hid (s = (bitsAll (l.take k)).length)) ∧ Hid (St (top W) [writer g (bitsAll (l.take k))] w')) (fun _ i _ _ _ _ => l.length - (intOf i).toNat)
  case atStart => exact ⟨0, by omega, by simp, ⟨0, rfl, rfl⟩, H⟩
  case round =>
    obtain ⟨k, hk, rfl, ⟨s, rfl, hs⟩, hS⟩ := hrel
    by_cases hkl : k < l.length
    · obtain ⟨b, off, rfl, hc0, hc1, hv, hx⟩ := HA.out k hkl
      have hsn := bitsAll_snoc (l.take k) l[k]
      rw [← List.take_succ_eq_append_getElem hkl] at hsn
      have HSN := Lib.hid hsn
      have hlen := bitsAll_length (l.take k)
      rw [List.length_take, Nat.min_eq_left hk] at hlen
      generalize bitsAll (l.take k) = bl at *
      obtain ⟨bl', hbl'⟩ : ∃ x, bitsAll (l.take (k + 1)) = x := ⟨_, rfl⟩
      rw [hbl'] at HSN
      have HBL := Lib.hid hbl'
      clear hbl' hsn
      obtain ⟨⟨v, x⟩, hvx⟩ : ∃ p, p = l[k] := ⟨_, rfl⟩
      rw [← hvx] at hc0 hc1 hv hx HSN
      have hc0 := top_cell hS.out hc0
      have hc1 := top_cell hS.out hc1
      obtain ⟨n, hnp⟩ : ∃ n, pickN x 33 = n := ⟨_, rfl⟩
      have hn33 := pickN_lt x 33 (by decide)
      rw [hnp] at hn33
      have HP := Lib.hid hnp
      have HX := Lib.hid hx
      have HVX := Lib.hid hvx
      clear hvx hnp hx
      simp only at hc0 hc1 hv
      go_wp2_with (first
        | (go_at_call 17; go_must (refine (pick_is _ 33 n _ HX.out (by decide) HP.out).mono ?_); rintro e w2 ⟨rfl, rfl⟩; simp only []))
      obtain ⟨p, hp⟩ : ∃ p : Nat, 2 ^ n = p := ⟨_, rfl⟩
      have hp1 : 1 ≤ p := by rw [← hp]; exact Nat.two_pow_pos n
      have hp2 : p ≤ 4294967296 := by rw [← hp]; exact Nat.pow_le_pow_right (n := 2) (by decide) (show n ≤ 32 by omega)
      have hsh : IntKind.u64.wrap (2 ^ n) = (p : Int) := by
        have h2 : ((2 : Int) ^ n) = ((2 ^ n : Nat) : Int) := by push_cast; rfl
        rw [h2, hp, IntKind.wrap_u64]; omega
      have HPP := Lib.hid hp
      clear hp
      have hput : bl ++ bitsOf ((v : Int) % p % 4294967296).toNat (n : Int).toNat = bl' := by
        rw [HSN.out]
        have e1 : ((v : Int) % p % 4294967296).toNat = v % p := by
          have h1 : v % p < p := Nat.mod_lt _ (by omega)
          have h2 : ((v : Int) % p) = ((v % p : Nat) : Int) := by omega
          rw [h2]; omega
        simp only [numOf, HP.out, HPP.out, e1, Int.toNat_natCast]
      have hlen2 : bl'.length = s + n := by rw [← hput, List.length_append, bitsOf_length, hs.out]; rfl
      have hne : ((bl'.length : Int) != (s : Int) + n) = false := by rw [bne_eq_false_iff_eq]; omega
      have hs2 : s ≤ 32 * k := by rw [hs.out]; exact hlen
      have hvlt : ((v : Int) % p % 4294967296).toNat < 2 ^ (n : Int).toNat := by
        have h1 : v % p < p := Nat.mod_lt _ (by omega)
        have h2 : ((v : Int) % p) = ((v % p : Nat) : Int) := by omega
        rw [h2, Int.toNat_natCast, HPP.out]; omega
      have hnn : 0 ≤ (v : Int) % p % 4294967296 := by omega
      have HPUT := Lib.hid hput
      have HVLT := Lib.hid hvlt
      have HNN := Lib.hid hnn
      have HL2 := Lib.hid hlen2
      have HS := hS
      clear hput hvlt hnn hlen2 hS H
      go_quiet (fail)
      go_wp2_with (first
        | (go_at_call 19; go_must (with_reducible refine (Put_I (top W) _ g bl bl' _ _ _ (HS.out.drewN _) (by omega) (by omega) HNN.out HVLT.out (by omega) HPUT.out).mono ?_); rintro e w3 ⟨rfl, hS⟩; simp only []; clear HS; have HS := Lib.hid hS; clear hS)
        | (go_at_call 20; go_must (with_reducible refine (Len_q (top W) _ g _ _ HS.out).mono ?_); rintro e w4 ⟨rfl, hq⟩; simp only []; have H2 := Lib.hid (HS.out.of_quiet hq); clear hq HS; have HS := H2; clear H2))
      go_roundw
      case rel => exact ⟨k + 1, by omega, by go_num, ⟨s + n, by go_num, by rw [HBL.out]; exact HL2.out.symm⟩, by rw [HBL.out]; exact HS⟩
      case measure => simp [intOf]; omega
    · have hkl : k = l.length := by omega
      subst hkl
      rw [List.take_of_length_le (Nat.le_refl _)] at hs hS
      have hBl := bitsAll_length l
      have hs2 : s ≤ 32 * l.length := by rw [hs.out]; exact hBl
      obtain ⟨B, hB⟩ : ∃ B, bitsAll l = B := ⟨_, rfl⟩
      rw [hB] at hs hS hBl
      have HB := Lib.hid hB
      have HS := hS
      clear hB hS H
      have hpl : (pack B).length ≤ 140737488355328 := by rw [pack_length]; omega
      have hbits := pack_lt B
      have HPL := Lib.hid hpl
      have HBT := Lib.hid hbits
      clear hpl hbits
      obtain ⟨N, hN⟩ : ∃ N, (pack B).length = N := ⟨_, rfl⟩
      have hN8 : N = (s + 7) / 8 := by rw [← hN, pack_length, hs.out]
      have hNe : ((N : Int) != ((s : Int) + 7) / 8) = false := by rw [bne_eq_false_iff_eq]; omega
      obtain ⟨L, hL⟩ : ∃ L, 8 * (pack B).length - 0 = L := ⟨_, rfl⟩
      have hLe : ((L : Int) != 8 * (N : Int)) = false := by rw [bne_eq_false_iff_eq]; omega
      have hNb : N ≤ 70368744177664 := by omega
      have HNN := Lib.hid hN
      have HLL := Lib.hid hL
      have HN8 := Lib.hid hN8
      clear hN hL hN8
      go_wp2_with (first
        | (go_at_call 21; go_must (with_reducible refine (Bytes_ok (top W) _ g _ _ HS.out (by omega)).mono ?_); rintro e w3 ⟨g2, m, cp, rfl, hm, hS⟩; simp only []; obtain rfl : N = m := HNN.out.symm.trans hm.out.symm; clear HS hm; have HS := Lib.hid hS; clear hS)
        | (go_at_call 22; go_must (with_reducible refine (NewReader_ok (top W) _ _ (pack B) _ HS.out (Rd.of_mem (List.mem_cons_self ..)) HPL.out).mono ?_); rintro e w3 ⟨g3, rfl, hS⟩; simp only []; clear HS; have HS := Lib.hid hS; clear hS)
        | (go_at_call 23; go_must (with_reducible refine (Left_is (top W) _ _ (pack B) 0 L _ HS.out (by omega) HPL.out HLL.out).mono ?_); rintro e w4 ⟨rfl, hq⟩; simp only []; have H2 := Lib.hid (HS.out.of_quiet hq); clear hq HS; have HS := H2; clear H2))
      go_loopw [12, 13, 14, 15] (fun i _ _ _ w' => ∃ k : Nat, k ≤ l.length ∧ i = .int .i64 (k : Nat) ∧ Hid (St (top W) [reader g3 (pack B) (bitsAll (l.take k)).length] w')) (fun i _ _ _ _ => l.length - (intOf i).toNat)
      case atStart => exact ⟨0, by omega, by simp, HS.out.perm (List.Perm.refl _) |>.swap.drop.swap.drop⟩
      case round =>
        obtain ⟨k, hk, rfl, hS⟩ := hrel
        by_cases hkl : k < l.length
        · obtain ⟨b, off, rfl, hc0, hc1, hv, hx⟩ := HA.out k hkl
          have hsn := bitsAll_snoc (l.take k) l[k]
          rw [← List.take_succ_eq_append_getElem hkl] at hsn
          have hB2 : bitsAll (l.take k) ++ bitsOf (numOf l[k]).1 (numOf l[k]).2 ++ bitsAll (l.drop (k + 1)) = B := by
            rw [← hsn, ← bitsAll_append, List.take_append_drop]; exact HB.out
          obtain ⟨bl, hbl⟩ : ∃ x, bitsAll (l.take k) = x := ⟨_, rfl⟩
          obtain ⟨bl', hbl'⟩ : ∃ x, bitsAll (l.take (k + 1)) = x := ⟨_, rfl⟩
          obtain ⟨⟨v, x⟩, hvx⟩ : ∃ p, p = l[k] := ⟨_, rfl⟩
          rw [hbl, hbl'] at hsn
          rw [hbl] at hB2 hS
          rw [← hvx] at hc0 hc1 hv hx hsn hB2
          obtain ⟨n, hnp⟩ : ∃ n, pickN x 33 = n := ⟨_, rfl⟩
          have hn33 := pickN_lt x 33 (by decide)
          rw [hnp] at hn33
          obtain ⟨p, hp⟩ : ∃ p : Nat, 2 ^ n = p := ⟨_, rfl⟩
          have hp1 : 1 ≤ p := by rw [← hp]; exact Nat.two_pow_pos n
          have hp2 : p ≤ 4294967296 := by rw [← hp]; exact Nat.pow_le_pow_right (n := 2) (by decide) (show n ≤ 32 by omega)
          have hsh : IntKind.u64.wrap (2 ^ n) = (p : Int) := by
            have h2 : ((2 : Int) ^ n) = ((2 ^ n : Nat) : Int) := by push_cast; rfl
            rw [h2, hp, IntKind.wrap_u64]; omega
          simp only [numOf, hnp, hp] at hsn hB2
          obtain ⟨q, hq⟩ : ∃ q, v % p = q := ⟨_, rfl⟩
          have hqe : ((v : Int) % p) = (q : Nat) := by omega
          have hqp : q < p := by rw [← hq]; exact Nat.mod_lt _ (by omega)
          rw [hq] at hsn hB2
          have hlB : bl.length + n ≤ B.length := by rw [← hB2]; simp [bitsOf_length]
          have hget : num (bitsAt (pack B) bl.length n) = q := by
            rw [bitsAt_pack B _ _ hlB, ← hB2, List.append_assoc, List.drop_left, List.take_left' (bitsOf_length q n)]
            exact num_bitsOf q n (by rw [hp]; exact hqp)
          have hsz : bl.length + n ≤ 8 * (pack B).length := by rw [pack_length]; omega
          have hnext : bl.length + n = bl'.length := by rw [hsn]; simp [bitsOf_length]
          have hqn : ((q : Int) != (v : Int) % p) = false := by rw [bne_eq_false_iff_eq]; omega
          have HP := Lib.hid hnp
          have HX := Lib.hid hx
          have HBL := Lib.hid hbl'
          have HGET := Lib.hid hget
          have HSZ := Lib.hid hsz
          have HNX := Lib.hid hnext
          clear hvx hnp hx hsn hB2 hbl hbl' hp hq hqe hlB hget hsz hnext HS
          have HS := hS
          clear hS
          simp only at hc0 hc1 hv
          have HC0 := Lib.hid hc0
          have HC1 := Lib.hid hc1
          clear hc0 hc1
          have hc0 := top_cell HS.out HC0.out
          have hc1 := top_cell HS.out HC1.out
          go_wp2_with (first
            | (go_at_call 17; go_must (refine (pick_is _ 33 n _ HX.out (by decide) HP.out).mono ?_); rintro e w2 ⟨rfl, rfl⟩; simp only [])
            | (go_at_call 24; go_must (with_reducible refine (Get_is (top W) _ _ (pack B) bl.length n q _ HS.out (by omega) HSZ.out HPL.out HBT.out HGET.out bl'.length HNX.out).mono ?_); rintro e w3 ⟨rfl, hS⟩; simp only []; clear HS hc0 hc1; have HS := Lib.hid hS; clear hS; have hc0 := top_cell HS.out HC0.out; have hc1 := top_cell HS.out HC1.out))
          go_quiet (fail)
          go_wp2_with fail
          go_roundw
          case rel => exact ⟨k + 1, by omega, by go_num, by rw [HBL.out]; exact HS.out.drewN _⟩
          case measure => simp [intOf]; omega
        · have hkl : k = l.length := by omega
          subst hkl
          rw [List.take_of_length_le (Nat.le_refl _), HB.out] at hS
          have hle : B.length ≤ 8 * (pack B).length := by rw [pack_length]; omega
          go_wp2_with (go_at_call 25; go_must (with_reducible refine (Rest_ok (top W) _ _ (pack B) B.length _ hS.out hle HPL.out HBT.out (restOk_pack B)).mono ?_); rintro e w4 ⟨rfl, hq⟩; simp only []; have H2 := Lib.hid (hS.out.of_quiet hq); clear hq hS; have hS := H2; clear H2)
          go_ret
          exact ⟨rfl, hS.out.below⟩

end Go.Proofs.Ythpkdephkhcgmaa
