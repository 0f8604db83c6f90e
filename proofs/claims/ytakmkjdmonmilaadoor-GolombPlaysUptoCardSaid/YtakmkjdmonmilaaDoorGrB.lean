import Derived.Test.YtakmkjdmonmilaaDoorGrA
import Derived.Deep.DeepCutAuto
/-! The document's golomb: number, params, Form, Cost. -/
namespace Go.Proofs.YtakmkjdmonmilaaDoor
set_option linter.unusedSimpArgs false
set_option linter.unusedVariables false
open Go Go.RowKit

/-- A slice of bits, read. -/
def BitsIn (w : World) (ao : Option Addr) (l : List Bool) : Prop := ∀ (j : Nat) (b : Bool), l[j]? = some b → ∃ g o, ao = some ⟨g, o, none⟩ ∧ w.cell? ⟨g, o + j, none⟩ = some (.int .u8 (b2n b : Nat))
theorem num_take_succ (l : List Bool) (i : Nat) (b : Bool) (h : l[i]? = some b) : num (l.take (i + 1)) = 2 * num (l.take i) + b2n b := by
  rw [List.take_add_one, h]
  exact num_snoc _ _
theorem number_ok (ao : Option Addr) (cap r : Nat) (l : List Bool) (w : World) (hl : l.length ≤ 16) (hb : BitsIn w ao l) (hr : num l = r) :
    Calls Tryd.prog 68 #[.slice ao l.length cap] w fun e w' => e = .returned (.int .i64 r) ∧ w' = w := by
  have HB := Lib.hid hb
  have HR := Lib.hid hr
  clear hb hr
  go_enter Tryd.func68, Tryd.ntmps68
  go_wp2_with fail
  go_loop [3, 4] (fun nv iv => ∃ i q : Nat, i ≤ l.length ∧ iv = .int .i64 i ∧ nv = .int .i64 q ∧ Hid (num (l.take i) = q)) (fun _ iv => l.length - (intOf iv).toNat)
  case atStart => exact ⟨0, 0, Nat.zero_le _, rfl, rfl, Lib.hid rfl⟩
  case round =>
    obtain ⟨i, q, hi, rfl, rfl, HQ⟩ := hrel
    by_cases hlt : i < l.length
    · have hq : q < 65536 := by
        rw [← HQ.out]
        exact Nat.lt_of_lt_of_le (num_lt _) (Nat.pow_le_pow_right (n := 2) (by decide) (show (l.take i).length ≤ 16 by simp; omega))
      obtain ⟨b, hbi⟩ : ∃ b, l[i]? = some b := ⟨_, List.getElem?_eq_getElem hlt⟩
      obtain ⟨g, o, rfl, hc⟩ := HB.out i b hbi
      have HS := Lib.hid (num_take_succ l i b hbi)
      have hb2 := b2n_lt b
      obtain ⟨d, hd⟩ : ∃ d, b2n b = d := ⟨_, rfl⟩
      rw [hd] at hc hb2
      have HD := Lib.hid hd
      clear hbi hd
      go_wp2_with fail
      go_round
      case rel => exact ⟨i + 1, 2 * q + d, by omega, by go_num, by go_num, Lib.hid (by rw [HS.out, HQ.out, HD.out])⟩
      case measure => simp [intOf]; omega
    · have hin : i = l.length := by omega
      subst hin
      have h1 := HQ.out
      rw [List.take_of_length_le (Nat.le_refl _), HR.out] at h1
      subst h1
      clear HR HQ
      go_wp2_with fail
      go_ret
      exact ⟨rfl, rfl⟩

def parOk (k wide : Int) : Prop := (0 ≤ k ∧ k ≤ 15) ∧ (1 ≤ wide ∧ wide ≤ 16)
instance (k wide : Int) : Decidable (parOk k wide) := by unfold parOk; infer_instance
theorem params_any (k wide : Int) (b : Bool) (w : World) (hb : decide (parOk k wide) = b) :
    Calls Tryd.prog 65 #[.int .i64 k, .int .i64 wide] w fun e w' => e = .returned (.bool b) ∧ w' = w := by
  obtain ⟨t1, e1⟩ : ∃ t, decide (0 ≤ k) = t := ⟨_, rfl⟩
  obtain ⟨t2, e2⟩ : ∃ t, decide (k ≤ 15) = t := ⟨_, rfl⟩
  obtain ⟨t3, e3⟩ : ∃ t, decide (1 ≤ wide) = t := ⟨_, rfl⟩
  obtain ⟨t4, e4⟩ : ∃ t, decide (wide ≤ 16) = t := ⟨_, rfl⟩
  have HB : Hid (((t1 && t2) && (t3 && t4)) = b) := Lib.hid (by rw [← hb, ← e1, ← e2, ← e3, ← e4, Bool.eq_iff_iff]; simp only [Bool.and_eq_true, decide_eq_true_eq]; exact Iff.rfl)
  clear hb
  cases t1 <;> cases t2 <;> cases t3
  all_goals
    go_enter Tryd.func65, Tryd.ntmps65
    go_wp2_with fail
    go_ret
    exact ⟨by rw [← HB.out]; first | rfl | simp, rfl⟩

theorem bitsOf_mod (v k : Nat) : bitsOf (v % 2 ^ k) k = bitsOf v k := by
  unfold bitsOf
  apply List.map_congr_left
  intro j hj
  have hj2 := List.mem_range.1 hj
  rw [Nat.testBit_mod_two_pow, decide_eq_true (by omega), Bool.true_and]
theorem bytesV_len (l : List Nat) : (bytesV l).length = l.length := by simp [bytesV]
theorem bytesV_one (l : List Nat) : ∀ u ∈ bytesV l, u.oneCell' = true := by
  intro u hu
  obtain ⟨b, _, rfl⟩ := List.mem_map.1 hu
  rfl
theorem bitB_rep (n : Nat) : List.replicate n (Value.int .u8 0) = bytesV (bitB (List.replicate n false)) := by
  simp [bytesV, bitB, b2n]
/-- Appending a row of the call's own. -/
theorem St.rowCells {c : Ctx} {R : List HP} {w : World} {e : TypeId} {n : Nat} {xs : List Value} {v : Value} (h : St c (row e 1 v n xs :: R) w) :
    ∃ (ao : Option Addr) (cap : Nat), v = .slice ao n cap ∧ (ao = none → n = 0 ∧ cap = 0) ∧ ∀ ad, ao = some ad → ∀ j u, xs[j]? = some u → w.cell? (ad.add j) = some u := by
  have hr := h.row_at
  rcases hr.2 with ⟨rfl, h2⟩ | ⟨gb, cap, cur, rfl, -, hgg, hnc, -⟩
  · exact ⟨none, 0, by rw [show n = 0 by have := hr.1; rw [h2] at this; simp at this; omega], fun _ => ⟨by have := hr.1; rw [h2] at this; simp at this; omega, rfl⟩, fun ad h => by cases h⟩
  · exact ⟨some ⟨gb, 0, none⟩, cap, rfl, fun h => (by cases h), fun ad had j u hj => by
      obtain rfl := Option.some.inj had
      rw [Addr.add_lit, Nat.zero_add]
      exact (hr.cellAt j (by have := (List.getElem?_eq_some_iff.1 hj).1; have := hr.1; omega)).trans hj⟩

set_option maxRecDepth 100000 in
set_option maxHeartbeats 2000000 in
theorem Form_ok (c : Ctx) (R : List HP) (v k wide : Nat) (w : World) (F : List Bool) (hS : St c R w) (hk : k ≤ 15) (hw : wide ≤ 16) (hv : v < 65536) (hF : gform v k wide = F) :
    Calls Tryd.prog 67 #[.int .i64 v, .int .i64 k, .int .i64 wide] w fun e w' => ∃ sl, e = .returned sl ∧ St c (row 5 1 sl F.length (bytesV (bitB F)) :: R) w' := by
  have HS := Lib.hid hS
  clear hS
  obtain ⟨p, hp⟩ : ∃ p, 2 ^ k = p := ⟨_, rfl⟩
  have hp0 : 0 < p := by rw [← hp]; exact Nat.two_pow_pos k
  have t0 : ((p : Int) == 0) = false := by simp; omega
  obtain ⟨q, hq⟩ : ∃ q, v / p = q := ⟨_, rfl⟩
  have hq1 : q < 65536 := by rw [← hq]; exact Nat.lt_of_le_of_lt (Nat.div_le_self _ _) hv
  have hq0 : (v : Int) / (p : Int) = (q : Int) := by rw [← hq]; push_cast; rfl
  have hq2 : Int.tdiv (v : Int) (p : Int) = (q : Int) := by rw [Int.tdiv_eq_ediv_of_nonneg (Int.natCast_nonneg v)]; exact hq0
  have HP := Lib.hid hp
  unfold gform at hF
  rw [hp, hq] at hF
  have HF := Lib.hid hF
  clear hp hq hF
  go_enter Tryd.func67, Tryd.ntmps67
  go_wp2_with fail
  refine (power_ok k p _ (by omega) HP.out).mono ?_
  rintro e w1 ⟨rfl, rfl⟩
  by_cases h24 : q < 24
  · have d24 : decide ((24 : Int) ≤ (q : Int)) = false := decide_eq_false (by omega)
    go_upto_region 7 with (at_make; go_must (refine St.make1 rfl _ _ _ rfl elemU8 rfl q rfl rfl HS.out (by omega) (by unfold maxLen; omega) ?_); intro gr w12 hS; have HS2 := Lib.hid hS; clear hS)
    rw [bitB_rep] at HS2
    go_wp2_with (at_builtin; go_must (refine St.append1 rfl (.tmp 25) (.tmp 26) _ rfl elemU8 rfl HS2.out (.int .u8 1) _ rfl rfl (by omega) (by simp [maxLen]; omega) ?_))
    intro g2 cp2 w2 hcp hS2
    have HS3 := Lib.hid hS2
    clear hS2 HS2 hcp
    go_wp2_with fail
    refine (digits_ok c _ v k _ HS3.out (by omega) (by omega)).mono ?_
    rintro e w3 ⟨sl, rfl, hS4⟩
    obtain ⟨ao, cap, rfl, hne, hcl⟩ := hS4.rowCells
    have HS4 := Lib.hid hS4.swap
    have HNE := Lib.hid hne
    have HCL := Lib.hid hcl
    clear hS4 hne hcl HS3
    go_wp2_with (at_builtin; go_must (refine St.append rfl (.tmp 28) (.tmp 31) _ rfl elemU8 rfl HS4.out ao k cap (bytesV (bitB (bitsOf v k))) rfl (by simp [bytesV, bitB, bitsOf_length]) HNE.out HCL.out (bytesV_one _) (by omega) (by simp [maxLen]; omega) ?_))
    intro v5 w5 hS5 hv5
    have HS5 := Lib.hid hS5
    clear hS5 hv5
    go_wp2_with fail
    go_ret
    refine ⟨_, rfl, ?_⟩
    have h := HS5.out.swap.drop
    have e1 : F = (List.replicate q false ++ [true]) ++ bitsOf v k := by
      rw [← HF.out, if_pos h24, ← HP.out, bitsOf_mod]
      simp
    have e2 : bytesV (bitB (List.replicate q false)) ++ .int .u8 1 :: bytesV (bitB (bitsOf v k)) = bytesV (bitB F) := by
      rw [e1, bitB_append, bytesV_append, bitB_append, bytesV_append, List.append_assoc]
      rfl
    have e3 : q + 1 + k = F.length := by rw [e1]; simp [bitsOf_length]; omega
    rw [← e2, ← e3]
    exact h
  · have d24 : decide ((24 : Int) ≤ (q : Int)) = true := decide_eq_true (by omega)
    go_wp2_with (at_make; go_must (refine St.make1 rfl _ _ _ rfl elemU8 rfl 24 rfl rfl HS.out (by omega) (by unfold maxLen; omega) ?_); intro gr w12 hS; have HS2 := Lib.hid hS; clear hS)
    rw [bitB_rep] at HS2
    refine (digits_ok c _ v wide _ HS2.out (by omega) (by omega)).mono ?_
    rintro e w3 ⟨sl, rfl, hS4⟩
    obtain ⟨ao, cap, rfl, hne, hcl⟩ := hS4.rowCells
    have HS4 := Lib.hid hS4.swap
    have HNE := Lib.hid hne
    have HCL := Lib.hid hcl
    clear hS4 hne hcl HS2
    go_wp2_with (at_builtin; go_must (refine St.append rfl (.tmp 17) (.tmp 20) _ rfl elemU8 rfl HS4.out ao wide cap (bytesV (bitB (bitsOf v wide))) rfl (by simp [bytesV, bitB, bitsOf_length]) HNE.out HCL.out (bytesV_one _) (by omega) (by simp [maxLen]; omega) ?_))
    intro v5 w5 hS5 hv5
    have HS5 := Lib.hid hS5
    clear hS5 hv5
    go_wp2_with fail
    go_ret
    refine ⟨_, rfl, ?_⟩
    have h := HS5.out.swap.drop
    have e1 : F = List.replicate 24 false ++ bitsOf v wide := by
      rw [← HF.out, if_neg h24]
    have e2 : bytesV (bitB (List.replicate 24 false)) ++ bytesV (bitB (bitsOf v wide)) = bytesV (bitB F) := by
      rw [e1, bitB_append, bytesV_append]
    have e3 : 24 + wide = F.length := by rw [e1, List.length_append, List.length_replicate, bitsOf_length]
    rw [← e2, ← e3]
    exact h
end Go.Proofs.YtakmkjdmonmilaaDoor
