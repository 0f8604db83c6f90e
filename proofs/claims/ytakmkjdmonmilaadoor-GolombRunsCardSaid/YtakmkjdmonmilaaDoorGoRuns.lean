import Derived.Test.YtakmkjdmonmilaaDoorGoU
namespace Go.Proofs.YtakmkjdmonmilaaDoor
set_option linter.unusedSimpArgs false
set_option linter.unusedVariables false
open Go Go.RowKit

/-- The rates behind the first k runs. -/
def ratesV (l : List RawRun) (k : Nat) : List Value := (List.range k).map fun i => .int .i64 ((uRate 0 (l.take (i + 1)) : Nat) : Int)
theorem ratesV_length (l : List RawRun) (k : Nat) : (ratesV l k).length = k := by simp [ratesV]
theorem ratesV_snoc (l : List RawRun) (k : Nat) {u : Value} (hu : u = .int .i64 ((uRate 0 (l.take (k + 1)) : Nat) : Int)) : ratesV l k ++ [u] = ratesV l (k + 1) := by
  subst hu
  simp [ratesV, List.range_succ]
theorem ratesV_at (l : List RawRun) (k n : Nat) (h : k < n) : (ratesV l n)[k]? = some (.int .i64 ((uRate 0 (l.take (k + 1)) : Nat) : Int)) := by
  simp [ratesV, h]

theorem add_at0 (b k : Nat) : (⟨b, 0, none⟩ : Addr).add k = ⟨b, k, none⟩ := by
  unfold Addr.add; split
  · subst k; rfl
  · simp

theorem elemInt : Elem Tryd.prog 31 3 (.int .i64 0) 1 8 := ⟨Tryd.underlying31, by kernel_rfl, rfl, by decide⟩

set_option maxHeartbeats 4000000 in
set_option maxRecDepth 100000 in
theorem golombRuns_walk {H : Type} {enc : TypeId × Value → H} (W : World) (hT : Tab W) (base : Nat) (v0 : Value) (a0 : Arg enc Tryd.prog W base 59 v0) :
    Calls Tryd.prog 8 #[v0] W fun e W' => e = .returned (.bool true) ∧ Below W.heap.size W W' := by
  obtain ⟨ao, cap, l, rfl, hlc, hw, ha⟩ := arg_rawruns a0
  have HT := Lib.hid hT
  have HA := Lib.hid ha
  clear hT a0 ha
  go_enter Tryd.func8, Tryd.ntmps8
  go_wp2_with fail
  refine (awake_ok W HT.out [] _ (St.top W)).mono ?_
  rintro en w1 ⟨rfl, hS⟩
  have HS := Lib.hid hS
  clear hS
  go_wp2_with fail
  refine (NewWriter_ok (top W) _ _ HS.out).mono ?_
  rintro en w2 ⟨g, rfl, hS2⟩
  have HS2 := Lib.hid hS2
  clear hS2
  go_wp2_with fail
  refine (NewRuns_ok (top W) _ _ HS2.out).mono ?_
  rintro en w3 ⟨x, rfl, hS3⟩
  have HS3 := Lib.hid hS3
  clear hS3
  go_wp2_with fail
  refine (NewRuns_ok (top W) _ _ HS3.out).mono ?_
  rintro en w4 ⟨y, rfl, hS4⟩
  have HS4 := Lib.hid ((hS4.back3).nilRow 3 1)
  clear hS4
  go_wp2_with fail
  go_loopw [7, 8] (fun rv v w' => ∃ k r : Nat, v = .int .i64 (k : Nat) ∧ k ≤ l.length ∧ r ≤ 22 ∧ Hid (uRate 0 (l.take k) = r) ∧ Hid (St (top W) (row 3 1 rv k (ratesV l k) :: runs x r :: writer g (uBits 0 (l.take k)) :: runs y 0 :: []) w')) (fun _ v _ => l.length - (intOf v).toNat)
  case atStart => exact ⟨0, 0, rfl, by omega, by omega, rfl, HS4.out⟩
  case round =>
    obtain ⟨k, r, rfl, hk, hr, hrate, hS⟩ := hrel
    by_cases hkl : k < l.length
    · obtain ⟨b, off, rfl, hc0, hc1, i0, i1⟩ := HA.out k hkl
      have hsn := uBits_append (l.take k) [l[k]] 0
      have hrn := uRate_append (l.take k) [l[k]] 0
      rw [← List.take_succ_eq_append_getElem hkl] at hsn hrn
      have hlen := uBits_len (l.take k) 0 (by decide)
      rw [List.length_take, Nat.min_eq_left hk] at hlen
      have hc0 := top_cell hS.out hc0
      have hc1 := top_cell hS.out hc1
      obtain ⟨⟨x0, x1⟩, hvx⟩ : ∃ p, p = l[k] := ⟨_, rfl⟩
      rw [← hvx] at hc0 hc1 i0 i1 hsn hrn
      clear hvx
      simp only [uBits, uRate, List.append_nil] at hc0 hc1 i0 i1 hsn hrn
      have hrl := uRoom_le (x0, x1)
      have hnl := uN_le (x0, x1)
      obtain ⟨room, hroom⟩ : ∃ q, uRoom (x0, x1) = q := ⟨_, rfl⟩
      obtain ⟨n, hn⟩ : ∃ q, uN (x0, x1) = q := ⟨_, rfl⟩
      rw [hroom] at hrl hnl hsn hrn
      rw [hn] at hnl hsn hrn
      rw [hrate.out] at hsn hrn
      obtain ⟨bl, hbl⟩ : ∃ q, uBits 0 (l.take k) = q := ⟨_, rfl⟩
      rw [hbl] at hsn hlen hS
      have HSN := Lib.hid hsn
      have HRN := Lib.hid hrn
      have HROOM := Lib.hid hroom
      have HN := Lib.hid hn
      have I0 := Lib.hid i0
      have I1 := Lib.hid i1
      have HS5 := Lib.hid hS.out.back4
      have hr2 := rnext_le (n := n) (room := room) hr
      clear hsn hrn hroom hn i0 i1 hbl hS
      go_wp2_with fail
      refine (uof_ok (top W) _ x0 x1 n room _ HS5.out I0.out I1.out HROOM.out HN.out).mono ?_
      rintro en w5 ⟨rfl, hS6⟩
      have HS6 := Lib.hid hS6
      clear hS6 HS5 hc0 hc1
      go_wp2_with fail
      refine (RPut_ok W HT.out _ x g r n room bl _ HS6.out hr hrl.1 hrl.2 hnl (by omega)).mono ?_
      rw [← HSN.out]
      rintro en w6 ⟨rfl, hS7⟩
      have HS7 := Lib.hid hS7
      clear hS7 HS6
      obtain ⟨r2, hr2e⟩ : ∃ q, rnext r n room = q := ⟨_, rfl⟩
      rw [hr2e] at HRN hr2 HS7
      clear hr2e
      go_wp2_with fail
      refine (Rate_q (top W) _ x r2 _ HS7.out).mono ?_
      rintro en w7 ⟨rfl, rfl⟩
      have HS8 := Lib.hid HS7.out.rot4
      clear HS7
      go_wp2_with (at_builtin; go_must (refine St.append1 rfl (.tmp 57) (.tmp 60) _ rfl elemInt rfl HS8.out _ _ rfl rfl (by omega) (by simp [maxLen]; omega) ?_))
      intro g4 cp4 w9 hcp hS9
      rw [ratesV_snoc l k (by rw [HRN.out])] at hS9
      have HS9 := Lib.hid hS9
      clear hS9 HS8 hcp
      go_wp2_with fail
      go_roundw
      case rel => exact ⟨k + 1, r2, by go_num, by omega, hr2, HRN.out, HS9⟩
      case measure => simp [intOf]; omega
    · have hkl : k = l.length := by omega
      subst hkl
      rw [List.take_of_length_le (Nat.le_refl _)] at hrate hS
      have hBl := uBits_len l 0 (by decide)
      obtain ⟨B, hB⟩ : ∃ B, uBits 0 l = B := ⟨_, rfl⟩
      rw [hB] at hS hBl
      have HB := Lib.hid hB
      have HSS := Lib.hid hS.out.back4.swap
      clear hB hS HS HS2 HS3 HS4
      have hpl : (pack B).length ≤ 140737488355328 := by rw [pack_length]; omega
      have hbits := pack_lt B
      have HPL := Lib.hid hpl
      have HBT := Lib.hid hbits
      clear hpl hbits
      go_wp2_with fail
      refine (Bytes_ok (top W) _ g B _ HSS.out (by omega)).mono ?_
      rintro en w3 ⟨g2, m, cp, rfl, hm, hS3⟩
      have HS3 := Lib.hid hS3
      clear hS3 hm
      go_wp2_with fail
      refine (NewReader_ok (top W) _ _ (pack B) _ HS3.out (Rd.of_mem (List.mem_cons_self ..)) HPL.out).mono ?_
      rintro en w4 ⟨g3, rfl, hS4⟩
      have hS5 := hS4.swap.drop.swap.drop.swap.drop.swap
      obtain ⟨ao, cp2, rfl, hcc, hlr, hno, hso⟩ := hS5.rot3.rowShape
      have HS5 := Lib.hid hS5
      clear hS4 hcc hlr hno hso hS5
      go_wp2_with fail
      go_loopw [13] (fun v w' => ∃ k r : Nat, v = .int .i64 (k : Nat) ∧ k ≤ l.length ∧ r ≤ 22 ∧ Hid (uRate 0 (l.take k) = r) ∧ Hid (St (top W) [runs y r, reader g3 (pack B) (uBits 0 (l.take k)).length, row 3 1 (.slice ao l.length cp2) l.length (ratesV l l.length)] w')) (fun v _ => l.length - (intOf v).toNat)
      case atStart => exact ⟨0, 0, rfl, by omega, by omega, rfl, HS5⟩
      case round =>
        obtain ⟨k, r, rfl, hk, hr, hrate, hS⟩ := hrel
        by_cases hkl : k < l.length
        · obtain ⟨b, off, rfl, hc0, hc1, i0, i1⟩ := HA.out k hkl
          have hsn := uBits_append (l.take k) [l[k]] 0
          have hrn := uRate_append (l.take k) [l[k]] 0
          have hB2 : uBits 0 (l.take (k + 1)) ++ uBits (uRate 0 (l.take (k + 1))) (l.drop (k + 1)) = B := by
            rw [← uBits_append, List.take_append_drop]; exact HB.out
          rw [← List.take_succ_eq_append_getElem hkl] at hsn hrn
          have hc0 := top_cell hS.out hc0
          have hc1 := top_cell hS.out hc1
          obtain ⟨⟨x0, x1⟩, hvx⟩ : ∃ p, p = l[k] := ⟨_, rfl⟩
          rw [← hvx] at hc0 hc1 i0 i1 hsn hrn
          clear hvx
          simp only [uBits, uRate, List.append_nil] at hc0 hc1 i0 i1 hsn hrn
          have hrl := uRoom_le (x0, x1)
          have hnl := uN_le (x0, x1)
          obtain ⟨room, hroom⟩ : ∃ q, uRoom (x0, x1) = q := ⟨_, rfl⟩
          obtain ⟨n, hn⟩ : ∃ q, uN (x0, x1) = q := ⟨_, rfl⟩
          rw [hroom] at hrl hnl hsn hrn
          rw [hn] at hnl hsn hrn
          rw [hrate.out] at hsn hrn
          obtain ⟨bl, hbl⟩ : ∃ q, uBits 0 (l.take k) = q := ⟨_, rfl⟩
          obtain ⟨bl2, hbl2⟩ : ∃ q, uBits 0 (l.take (k + 1)) = q := ⟨_, rfl⟩
          have hr2 := rnext_le (n := n) (room := room) hr
          obtain ⟨r2, hr2e⟩ : ∃ q, rnext r n room = q := ⟨_, rfl⟩
          obtain ⟨F, hF⟩ : ∃ q, rform r n room = q := ⟨_, rfl⟩
          rw [hbl] at hsn hS
          rw [hbl2] at hsn hB2
          rw [hF] at hsn
          rw [hr2e] at hrn hr2
          have HHAS := Lib.hid (run_pack (A := bl) (r := r) (n := n) (room := room) hF (hsn ▸ hB2))
          have hlb : bl.length ≤ 8 * (pack B).length := by
            rw [← hB2, hsn, pack_length]; simp only [List.length_append]; omega
          have HLB := Lib.hid hlb
          have HNX : Hid (bl.length + F.length = (uBits 0 (l.take (k + 1))).length) := by rw [hbl2, hsn]; first | done | simp [Hid]
          have HRN := Lib.hid hrn
          have HROOM := Lib.hid hroom
          have HN := Lib.hid hn
          have HF := Lib.hid hF
          have HR2 := Lib.hid hr2e
          have I0 := Lib.hid i0
          have I1 := Lib.hid i1
          clear hsn hrn hroom hn i0 i1 hbl hbl2 hB2 hF hr2e hlb
          go_wp2_with fail
          refine (uof_ok (top W) _ x0 x1 n room _ hS.out I0.out I1.out HROOM.out HN.out).mono ?_
          rintro en w5 ⟨rfl, hS6⟩
          have HS6 := Lib.hid hS6
          clear hS6 hc0 hc1 hS
          go_wp2_with fail
          refine (RGet_ok W HT.out _ y g3 r room (pack B) bl.length _ HS6.out hr hrl.1 hrl.2 HLB.out HPL.out HBT.out).mono ?_
          rintro en w6 (⟨n2, hn2, hf, rfl, hS7⟩ | ⟨q, _, hno, _, _⟩)
          · obtain rfl : n2 = n := run_one _ hn2 hnl hf HHAS.out
            rw [HR2.out, HF.out, HNX.out] at hS7
            obtain ⟨ao2, cp3, e, -, -, hno, hso⟩ := hS7.rot3.rowShape
            cases e
            have HS7 := Lib.hid hS7
            cases ao with
            | none => have := hno rfl; omega
            | some ad =>
              obtain ⟨h1, h2, h3⟩ := hso ad rfl
              have h4 := h3 k _ (ratesV_at l k l.length hkl)
              obtain ⟨gb, goff, gsp⟩ := ad
              simp only at h1 h2
              subst h1; subst h2
              rw [HRN.out, add_at0] at h4
              clear hf hS7 HS6 hno hso h3 hn2
              have t1 : decide ((r2 : Int) < 0) = false := by rw [decide_eq_false_iff_not]; omega
              have t2 : decide ((22 : Int) < r2) = false := by rw [decide_eq_false_iff_not]; omega
              have t3 : decide (22 < r2) = false := by rw [decide_eq_false_iff_not]; omega
              go_wp2_with fail
              go_quiet (exact Calls.quiet_of_same ((Rate_q (top W) _ y r2 _ (HS7.out.drewN _)).mono fun _ _ h => ⟨h.1, h.2.symm⟩))
              go_wp2_with fail
              go_roundw
              case rel => exact ⟨k + 1, r2, by go_num, by omega, hr2, HRN.out, HS7.out.drewN nq⟩
              case measure => simp [intOf]; omega
          · exact absurd HHAS.out (hno n hnl)
        · have hkl : k = l.length := by omega
          subst hkl
          rw [List.take_of_length_le (Nat.le_refl _), HB.out] at hS
          have hle : B.length ≤ 8 * (pack B).length := by rw [pack_length]; omega
          go_wp2_with fail
          refine (Rest_ok (top W) _ _ (pack B) B.length _ hS.out.swap hle HPL.out HBT.out (restOk_pack B)).mono ?_
          rintro en w4 ⟨rfl, m2, rfl⟩
          go_wp2_with fail
          go_ret
          exact ⟨rfl, (hS.out.drewN m2).below⟩

end Go.Proofs.YtakmkjdmonmilaaDoor
