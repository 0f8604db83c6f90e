import Derived.Test.YtakmkjdmonmilaaDoorGrE
/-! The document's writers: Bytes. -/
namespace Go.Proofs.YtakmkjdmonmilaaDoor
set_option linter.unusedSimpArgs false
set_option linter.unusedVariables false
open Go Go.RowKit

/-- A byte in the making. -/
def pn (l : List Bool) (m : Nat) : Nat → Nat
  | 0 => 0
  | j + 1 => 2 * pn l m j + bitN l (8 * m + j)
theorem pn_eight (l : List Bool) (m : Nat) : pn l m 8 = byteN l m := by
  simp only [pn, byteN, Nat.add_zero]
  omega
theorem pn_lt (l : List Bool) (m : Nat) : ∀ j, pn l m j < 2 ^ j
  | 0 => by simp [pn]
  | j + 1 => by
    have := pn_lt l m j
    have := bitN_lt l (8 * m + j)
    simp only [pn, Nat.pow_succ]
    omega
theorem bitN_of {l : List Bool} {k : Nat} {b : Bool} (h : l[k]? = some b) : bitN l k = b2n b := by
  unfold bitN b2n
  rw [List.getD_eq_getElem?_getD, h]
  rfl
theorem pack_take_succ (l : List Bool) (m : Nat) (hm : m < (l.length + 7) / 8) : (pack l).take (m + 1) = (pack l).take m ++ [byteN l m] := by
  rw [List.take_add_one, pack_get l m hm]
  rfl

set_option maxRecDepth 100000 in
set_option maxHeartbeats 4000000 in
theorem rBytes_ok (c : Ctx) (R : List HP) (g : Nat) (l : List Bool) (w : World) (hS : St c (rwriter g l :: R) w) (hl : l.length ≤ 140737488000000) :
    Calls Tryd.prog 60 #[.pointer (some ⟨g, 0, none⟩)] w fun e w' => ∃ sl, e = .returned sl ∧ St c (row 5 1 sl (pack l).length (bytesV (pack l)) :: rwriter g l :: R) w' := by
  obtain ⟨v, hS⟩ := hS.open_
  have hS := hS.star
  obtain ⟨ao, cap, rfl, -⟩ := hS.swap.bitsRow
  have H0 : Hid (St c (row 5 1 (.slice none 0 0) 0 (bytesV ((pack l).take 0)) :: blk g [.slice ao l.length cap] 105 :: row 5 1 (.slice ao l.length cap) l.length (bytesV (bitB l)) :: R) w) := Lib.hid (hS.nilRow 5 1)
  clear hS
  go_enter Tryd.func60, Tryd.ntmps60
  go_wp2_with fail
  go_loopw [3, 4, 5, 6] (fun ov iv _ _ wr => ∃ m : Nat, m ≤ (l.length + 7) / 8 ∧ iv = .int .i64 ((8 * m : Nat) : Int) ∧ Hid (St c (row 5 1 ov m (bytesV ((pack l).take m)) :: blk g [.slice ao l.length cap] 105 :: row 5 1 (.slice ao l.length cap) l.length (bytesV (bitB l)) :: R) wr)) (fun _ iv _ _ _ => l.length + 8 - (intOf iv).toNat)
  case atStart => exact ⟨0, Nat.zero_le _, rfl, H0⟩
  case round =>
    clear H0
    obtain ⟨m, hm, rfl, HS⟩ := hrel
    have c0 := HS.out.cell_mem mm1 0 (.slice ao l.length cap) rfl
    by_cases hlt : 8 * m < l.length
    · have di : decide (((8 * m : Nat) : Int) < (l.length : Int)) = true := decide_eq_true (by omega)
      obtain ⟨ao2, cap2, e1, -, hne2, hbits⟩ := (HS.out.rot3).bitsRow
      injection e1 with e1 _ e3
      subst e1; subst e3
      obtain ⟨gb, hao, hcell⟩ : ∃ gb, ao = some ⟨gb, 0, none⟩ ∧ ∀ j b, l[j]? = some b → wr.cell? ⟨gb, j, none⟩ = some (.int .u8 (b2n b : Nat)) := by
        cases ao with
        | none => have := (hne2 rfl).1; omega
        | some ad =>
          obtain ⟨gb, rfl, h⟩ := hbits ad rfl
          exact ⟨gb, rfl, h⟩
      subst hao
      have HCB := Lib.hid hcell
      clear hcell hbits hne2
      obtain ⟨i8, hi8⟩ : ∃ i8, 8 * m = i8 := ⟨_, rfl⟩
      have HI8 := Lib.hid hi8
      rw [hi8] at di hlt
      rw [hi8]
      have hib : i8 ≤ 140737488000000 := by omega
      have hm8 : m < (l.length + 7) / 8 := by omega
      have HM8 := Lib.hid hm8
      have hmb : m ≤ 17592186000000 := by omega
      clear hi8 hm8 hm
      go_wp2_with fail
      go_loop [5, 6] (fun nv kv => ∃ j q : Nat, j ≤ 8 ∧ kv = .int .i64 ((i8 + j : Nat) : Int) ∧ nv = .int .i64 q ∧ Hid (pn l m j = q)) (fun _ kv => i8 + 8 - (intOf kv).toNat)
      case atStart => exact ⟨0, 0, by decide, rfl, rfl, Lib.hid rfl⟩
      case round =>
        obtain ⟨j, q, hj, rfl, rfl, HQ⟩ := hrel
        have hqj : q < 256 := by
          rw [← HQ.out]
          exact Nat.lt_of_lt_of_le (pn_lt l m j) (Nat.pow_le_pow_right (n := 2) (by decide) (show j ≤ 8 from hj))
        obtain ⟨k, hk⟩ : ∃ k, i8 + j = k := ⟨_, rfl⟩
        rw [hk]
        have hkb : k ≤ 140737488000008 := by omega
        by_cases hj8 : j < 8
        · have dk : decide ((k : Int) < (i8 : Int) + 8) = true := decide_eq_true (by omega)
          have HK := Lib.hid hk
          by_cases hkl : k < l.length
          · have dl : decide ((k : Int) < (l.length : Int)) = true := decide_eq_true (by omega)
            obtain ⟨b, hb⟩ : ∃ b, l[k]? = some b := ⟨_, List.getElem?_eq_getElem hkl⟩
            have cb := HCB.out k b hb
            have hb2 := b2n_lt b
            have HN : Hid (pn l m (j + 1) = 2 * q + b2n b) := Lib.hid (by
              simp only [pn]
              rw [HQ.out, HI8.out, HK.out, bitN_of hb])
            generalize b2n b = d at *
            clear hb hk
            go_wp2_with fail
            go_round
            case rel => exact ⟨j + 1, 2 * q + d, by omega, by have := HK.out; simp only [Value.int.injEq, true_and]; omega, by go_num, HN⟩
            case measure => have := HK.out; simp [intOf]; omega
          · have dl : decide ((k : Int) < (l.length : Int)) = false := decide_eq_false (by omega)
            have HN : Hid (pn l m (j + 1) = 2 * q) := Lib.hid (by
              simp only [pn]
              rw [HQ.out, HI8.out, HK.out, bitN_end l k (by omega)]
              rfl)
            clear hk
            go_wp2_with fail
            go_round
            case rel => exact ⟨j + 1, 2 * q, by omega, by have := HK.out; simp only [Value.int.injEq, true_and]; omega, by go_num, HN⟩
            case measure => have := HK.out; simp [intOf]; omega
        · have hj9 : j = 8 := by omega
          subst hj9
          have hqB : byteN l m = q := by rw [← pn_eight]; exact HQ.out
          have HQB := Lib.hid hqB
          have hk2 : k = i8 + 8 := by omega
          have dk : decide ((k : Int) < (i8 : Int) + 8) = false := decide_eq_false (by omega)
          have hqw : IntKind.u8.wrap (q : Int) = (q : Int) := by first | (rw [IntKind.wrap_u8]; omega) | (simp [IntKind.wrap]; omega)
          clear hqB HQ hk hj
          go_wp2_with (at_builtin; go_must (refine St.append1 rfl (.tmp 42) (.tmp 45) _ rfl elemU8 rfl HS.out _ _ rfl rfl (by omega) (by simp [maxLen]; omega) ?_))
          intro g2 cp2 w2 hcp hS2
          have HS2 := Lib.hid hS2
          clear hS2 hcp
          go_wp2_with fail
          go_roundw
          case rel => exact ⟨m + 1, by have := HM8.out; omega, by have := HI8.out; simp only [Value.int.injEq, true_and]; omega, Lib.hid (by
            have h := HS2.out
            rw [pack_take_succ l m HM8.out, HQB.out, bytesV_append]
            exact h)⟩
          case measure => simp [intOf]; omega
    · have hmE : m = (l.length + 7) / 8 := by omega
      have di : decide (((8 * m : Nat) : Int) < (l.length : Int)) = false := decide_eq_false (by omega)
      have HME := Lib.hid hmE
      generalize 8 * m = i8 at *
      clear hmE
      go_wp2_with fail
      go_ret
      refine ⟨_, rfl, ?_⟩
      have h := HS.out
      rw [List.take_of_length_le (by rw [pack_length, HME.out]; exact Nat.le_refl _)] at h
      have e : m = (pack l).length := by rw [pack_length, HME.out]
      rw [← e]
      exact (St.toRw h.rot3.rot3).swap
end Go.Proofs.YtakmkjdmonmilaaDoor
