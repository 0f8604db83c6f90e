import Derived.Test.YthpkdephkhcgmaaPPnx
import Derived.Test.YthpkdephkhcgmaaBitsC
import Derived.Test.YthpkdephkhcgmaaBkP
/-! Numbers in whole bytes, by the printed functions: plain. -/
namespace Go.Proofs.Ythpkdephkhcgmaa
set_option linter.unusedSimpArgs false
set_option linter.unusedVariables false
open Go Go.RowKit Go.Proofs.Ythpkdephkhcgmaa.PPn Go.Proofs.YthpkdephkhcgmaaW.PrintWords Go.Proofs.YthpkdephkhcgmaaW.PrintMore

def bigI (n k : Nat) : List Int := (List.range k).map fun i => ((n / 256 ^ (k - 1 - i) % 256 : Nat) : Int)
theorem bigI_length (n k : Nat) : (bigI n k).length = k := by simp [bigI]
theorem bigI_at (n k i : Nat) (h : i < k) : (bigI n k)[i]? = some ((n / 256 ^ (k - 1 - i) % 256 : Nat) : Int) := by
  unfold bigI
  rw [List.getElem?_map, List.getElem?_range h]; rfl
theorem bigI_bd (n k : Nat) : ∀ v ∈ bigI n k, 0 ≤ v ∧ v ≤ 255 := by
  intro v hv
  obtain ⟨i, _, rfl⟩ := List.mem_map.1 hv
  have : n / 256 ^ (k - 1 - i) % 256 < 256 := Nat.mod_lt _ (by decide)
  omega
/-- What Big answers. -/
def bigF (n : Nat) (b : Int) : List Int × Int := if b < 1 ∨ 8 < b then ([], 11) else if n < 256 ^ b.toNat then (bigI n b.toNat, 0) else ([], 12)

theorem bigI_B (n k : Nat) : nums .u8 (bigI n k) = bytesV (bigB n k) := by
  unfold bigI bigB nums bytesV
  simp [List.map_map, Function.comp_def]
theorem rbig_l0 (n k : Nat) (hn : n < 18446744073709551616) (h8 : k ≤ 8) : ∀ (i : Nat), i ≤ k → ∀ f, i + 1 ≤ f → dailiesref01_Big.l0 f ((n / 256 ^ (k - i) : Nat) : Int) (List.replicate i 0 ++ (bigI n k).drop i) ((i : Int) - 1) = some (if n < 256 ^ k then (bigI n k, 0) else ([], 12)) := by
  intro i
  induction i with
  | zero =>
    intro hi f hf
    obtain ⟨f, rfl⟩ : ∃ m, f = m + 1 := ⟨f - 1, by omega⟩
    simp only [dailiesref01_Big.l0]
    rw [if_neg (by omega), Nat.sub_zero]
    have hp : 0 < 256 ^ k := Nat.pow_pos (by decide)
    by_cases h : n < 256 ^ k
    · rw [if_pos h, Nat.div_eq_of_lt h, if_pos (by rfl)]
      simp
    · have : 0 < n / 256 ^ k := Nat.div_pos (by omega) hp
      rw [if_neg h, if_neg (by omega)]
  | succ i ih =>
    intro hi f hf
    obtain ⟨f, rfl⟩ : ∃ m, f = m + 1 := ⟨f - 1, by omega⟩
    simp only [dailiesref01_Big.l0]
    have e0 : ((i + 1 : Nat) : Int) - 1 = (i : Int) := by omega
    have hlen : (List.replicate (i + 1) 0 ++ (bigI n k).drop (i + 1)).length = k := by simp [bigI_length]; omega
    obtain ⟨m, hm⟩ : ∃ m, n / 256 ^ (k - (i + 1)) = m := ⟨_, rfl⟩
    have hmn : m ≤ n := by rw [← hm]; exact Nat.div_le_self _ _
    have hnext : n / 256 ^ (k - i) = m / 256 := by
      rw [← hm, Nat.div_div_eq_div_mul, ← Nat.pow_succ]
      congr 2
      omega
    rw [hm, e0, if_pos (by omega), if_pos (by omega), hlen, if_pos (by omega), Int.toNat_natCast, w64k (x := (i : Int) - 1) (by omega) (by omega), Int.tdiv_eq_ediv_of_nonneg (by omega), Int.tmod_eq_emod_of_nonneg (by omega)]
    have e1 : IntKind.u64.wrap ((m : Int) / 256) = ((m / 256 : Nat) : Int) := by
      rw [show ((m : Int) / 256) = ((m / 256 : Nat) : Int) by omega, IntKind.wrap_u64]
      omega
    have e2 : ((m : Int) % 256 % 256) = ((n / 256 ^ (k - 1 - i) % 256 : Nat) : Int) := by
      have : k - 1 - i = k - (i + 1) := by omega
      rw [this, hm]; omega
    rw [e1, e2, ← hnext]
    have e3 : (List.replicate (i + 1) 0 ++ (bigI n k).drop (i + 1)).set i ((n / 256 ^ (k - 1 - i) % 256 : Nat) : Int) = List.replicate i 0 ++ (bigI n k).drop i := by
      rw [List.replicate_succ', List.append_assoc, List.set_append_right _ _ (by simp), List.length_replicate, Nat.sub_self]
      have h1 : i < (bigI n k).length := by rw [bigI_length]; omega
      have h2 := bigI_at n k i (by omega)
      rw [List.getElem?_eq_getElem h1] at h2
      rw [List.drop_eq_getElem_cons h1, Option.some.inj h2]
      rfl
    rw [e3]
    exact ih (by omega) f (by omega)
theorem rbig_f (n : Nat) (b : Int) (hn : n < 18446744073709551616) : dailiesref01_Big.f 20 (n : Int) b = some (bigF n b) := by
  unfold dailiesref01_Big.f bigF
  by_cases h1 : b < 1
  · rw [if_pos h1, if_pos (.inl h1)]; rfl
  · rw [if_neg h1]
    by_cases h2 : b > 8
    · rw [if_pos (.inr h2), decide_eq_true h2]; rfl
    · rw [if_neg (by omega), decide_eq_false h2]
      obtain ⟨k, rfl⟩ : ∃ k : Nat, b = k := ⟨b.toNat, by omega⟩
      rw [Int.toNat_natCast]
      simp only [dailiesref01_Big.j0]
      rw [if_neg (by decide), if_pos (by omega), Int.toNat_natCast, if_pos (by omega), w64k (x := (k : Int) - 1) (by omega) (by omega)]
      have := rbig_l0 n k hn (by omega) k (Nat.le_refl _) 19 (by omega)
      rw [Nat.sub_self, Nat.pow_zero, Nat.div_one, List.drop_of_length_le (by rw [bigI_length]; exact Nat.le_refl _), List.append_nil] at this
      exact this

/-! Number -/
def numI (l : List Int) : Int := l.foldl (fun a b => 256 * a + b) 0
theorem numI_snoc (l : List Int) (b : Int) : numI (l ++ [b]) = 256 * numI l + b := by simp [numI]
theorem numI_bd (l : List Int) (h : ∀ v ∈ l, 0 ≤ v ∧ v ≤ 255) : ∀ i, i ≤ l.length → 0 ≤ numI (l.take i) ∧ numI (l.take i) < ((256 ^ i : Nat) : Int)
  | 0, _ => by simp [numI]
  | i + 1, hi => by
    have ih := numI_bd l h i (by omega)
    have hm := h l[i] (List.getElem_mem (by omega))
    rw [List.take_succ_eq_append_getElem (by omega), numI_snoc, Nat.pow_succ]
    omega
/-- What Number answers. -/
def numF (l : List Int) : Int × Int := if l.length < 1 ∨ 8 < l.length then (0, 11) else (numI l, 0)
theorem pow_le8 (i : Nat) (h : i ≤ 8) : (256 ^ i : Nat) ≤ 18446744073709551616 := Nat.le_trans (Nat.pow_le_pow_right (by decide) h) (by decide)
theorem pow_le7 (i : Nat) (h : i ≤ 7) : (256 ^ i : Nat) ≤ 72057594037927936 := Nat.le_trans (Nat.pow_le_pow_right (by decide) h) (by decide)
theorem num_l0 (l : List Int) (h : ∀ v ∈ l, 0 ≤ v ∧ v ≤ 255) (h8 : l.length ≤ 8) : ∀ (e i : Nat), i + e = l.length → ∀ f, e + 1 ≤ f → bits_Number.l0 f (numI (l.take i)) l (l.length : Int) (i : Int) = some (numI l, 0) := by
  intro e
  induction e with
  | zero =>
    intro i hi f hf
    obtain ⟨f, rfl⟩ : ∃ m, f = m + 1 := ⟨f - 1, by omega⟩
    simp only [bits_Number.l0]
    rw [if_neg (by omega), List.take_of_length_le (by omega)]
  | succ e ih =>
    intro i hi f hf
    obtain ⟨f, rfl⟩ : ∃ m, f = m + 1 := ⟨f - 1, by omega⟩
    simp only [bits_Number.l0]
    have hb := numI_bd l h i (by omega)
    have hp := pow_le7 i (by omega)
    have hm := h l[i] (List.getElem_mem (by omega))
    have hr : rd l (i : Int) = l[i] := by
      show l.getD i 0 = _
      rw [List.getD_eq_getElem?_getD, List.getElem?_eq_getElem (by omega)]; rfl
    obtain ⟨a, ha⟩ : ∃ a : Nat, numI (l.take i) = a := ⟨(numI (l.take i)).toNat, by omega⟩
    obtain ⟨b, hbb⟩ : ∃ b : Nat, l[i] = b := ⟨l[i].toNat, by omega⟩
    rw [ha] at hb
    rw [hbb] at hm
    rw [if_pos (by omega), if_pos (by omega), if_pos (by omega), hr, ha, hbb, w64k (x := (i : Int) + 1) (by omega) (by omega)]
    have e1 : IntKind.u64.wrap ((a : Int) * 256) = (a : Int) * 256 := by rw [IntKind.wrap_u64]; omega
    have e2 : IntKind.u64.wrap (b : Int) = (b : Int) := by rw [IntKind.wrap_u64]; omega
    rw [e1, e2, or_byte64 a b (by omega) (by omega)]
    have e3 : ((256 * a + b : Nat) : Int) = numI (l.take (i + 1)) := by
      rw [List.take_succ_eq_append_getElem (by omega), numI_snoc, ha, hbb]; omega
    rw [e3]
    exact ih (i + 1) (by omega) f (by omega)
theorem num_f (l : List Int) (h : ∀ v ∈ l, 0 ≤ v ∧ v ≤ 255) : bits_Number.f 20 l = some (numF l) := by
  unfold bits_Number.f numF
  by_cases h1 : l.length < 1
  · rw [if_pos (by omega), if_pos (.inl h1)]; rfl
  · rw [if_neg (by omega)]
    by_cases h2 : 8 < l.length
    · rw [if_pos (.inr h2), decide_eq_true (by omega)]; rfl
    · rw [if_neg (by omega), decide_eq_false (by omega)]
      simp only [bits_Number.j0]
      rw [if_neg (by decide)]
      exact num_l0 l h (by omega) l.length 0 (by omega) 19 (by omega)
theorem rnum_l0 (l : List Int) (h : ∀ v ∈ l, 0 ≤ v ∧ v ≤ 255) (h8 : l.length ≤ 8) : ∀ (e i : Nat), i + e = l.length → ∀ f, e + 1 ≤ f → dailiesref01_Number.l0 f l (numI (l.take i)) (i : Int) = some (numI l, 0) := by
  intro e
  induction e with
  | zero =>
    intro i hi f hf
    obtain ⟨f, rfl⟩ : ∃ m, f = m + 1 := ⟨f - 1, by omega⟩
    simp only [dailiesref01_Number.l0]
    rw [if_neg (by omega), List.take_of_length_le (by omega)]
  | succ e ih =>
    intro i hi f hf
    obtain ⟨f, rfl⟩ : ∃ m, f = m + 1 := ⟨f - 1, by omega⟩
    simp only [dailiesref01_Number.l0]
    have hb := numI_bd l h i (by omega)
    have hp := pow_le7 i (by omega)
    have hm := h l[i] (List.getElem_mem (by omega))
    have hr : rd l (i : Int) = l[i] := by
      show l.getD i 0 = _
      rw [List.getD_eq_getElem?_getD, List.getElem?_eq_getElem (by omega)]; rfl
    obtain ⟨a, ha⟩ : ∃ a : Nat, numI (l.take i) = a := ⟨(numI (l.take i)).toNat, by omega⟩
    obtain ⟨b, hbb⟩ : ∃ b : Nat, l[i] = b := ⟨l[i].toNat, by omega⟩
    rw [ha] at hb
    rw [hbb] at hm
    rw [if_pos (by omega), if_pos (by omega), hr, ha, hbb, w64k (x := (i : Int) + 1) (by omega) (by omega)]
    have e1 : IntKind.u64.wrap (256 * (a : Int)) = 256 * (a : Int) := by rw [IntKind.wrap_u64]; omega
    have e2 : IntKind.u64.wrap (b : Int) = (b : Int) := by rw [IntKind.wrap_u64]; omega
    rw [e1, e2]
    have e3 : IntKind.u64.wrap (256 * (a : Int) + (b : Int)) = numI (l.take (i + 1)) := by
      rw [List.take_succ_eq_append_getElem (by omega), numI_snoc, ha, hbb, IntKind.wrap_u64]; omega
    rw [e3]
    exact ih (i + 1) (by omega) f (by omega)
theorem rnum_f (l : List Int) (h : ∀ v ∈ l, 0 ≤ v ∧ v ≤ 255) : dailiesref01_Number.f 20 l = some (numF l) := by
  unfold dailiesref01_Number.f numF
  by_cases h1 : l.length < 1
  · rw [if_pos (by omega), if_pos (.inl h1)]; rfl
  · rw [if_neg (by omega)]
    by_cases h2 : 8 < l.length
    · rw [if_pos (.inr h2), decide_eq_true (by omega)]; rfl
    · rw [if_neg (by omega), decide_eq_false (by omega)]
      simp only [dailiesref01_Number.j0]
      rw [if_neg (by decide)]
      exact rnum_l0 l h (by omega) l.length 0 (by omega) 19 (by omega)
end Go.Proofs.Ythpkdephkhcgmaa
