/- Plain words for bits and bytes: a list of bits, packed into bytes. -/
import Derived.Laws.BitsAllLaws
namespace Go.Proofs.YtakmkjdmonmilaaDoor
set_option linter.unusedSimpArgs false
set_option linter.unusedVariables false
open Go

/-- The k-th bit as a number; beyond the end 0. -/
def bitN (l : List Bool) (k : Nat) : Nat := if l.getD k false then 1 else 0
def byteN (l : List Bool) (i : Nat) : Nat :=
  128 * bitN l (8*i) + 64 * bitN l (8*i+1) + 32 * bitN l (8*i+2) + 16 * bitN l (8*i+3) + 8 * bitN l (8*i+4) + 4 * bitN l (8*i+5) + 2 * bitN l (8*i+6) + bitN l (8*i+7)
def pack (l : List Bool) : List Nat := (List.range ((l.length + 7) / 8)).map (byteN l)
/-- The lowest n bits of v, the highest first. -/
def bitsOf (v n : Nat) : List Bool := (List.range n).map fun j => v.testBit (n - 1 - j)

theorem bitN_lt (l : List Bool) (k : Nat) : bitN l k < 2 := by unfold bitN; split <;> omega
theorem byteN_lt (l : List Bool) (i : Nat) : byteN l i < 256 := by
  unfold byteN
  have h0 := bitN_lt l (8*i); have h1 := bitN_lt l (8*i+1); have h2 := bitN_lt l (8*i+2); have h3 := bitN_lt l (8*i+3)
  have h4 := bitN_lt l (8*i+4); have h5 := bitN_lt l (8*i+5); have h6 := bitN_lt l (8*i+6); have h7 := bitN_lt l (8*i+7)
  omega
theorem pack_length (l : List Bool) : (pack l).length = (l.length + 7) / 8 := by simp [pack]
theorem pack_get (l : List Bool) (i : Nat) (h : i < (l.length + 7) / 8) : (pack l)[i]? = some (byteN l i) := by
  simp [pack, h]
theorem pack_lt (l : List Bool) : ∀ b ∈ pack l, b < 256 := by
  intro b hb
  obtain ⟨i, _, rfl⟩ := List.mem_map.1 hb
  exact byteN_lt l i

theorem bitN_snoc (l : List Bool) (b : Bool) (k : Nat) : bitN (l ++ [b]) k = if k = l.length then (if b then 1 else 0) else bitN l k := by
  unfold bitN
  rcases Nat.lt_trichotomy k l.length with h | h | h
  · rw [if_neg (by omega : ¬ k = l.length)]
    have e : (l ++ [b]).getD k false = l.getD k false := by simp [List.getD, List.getElem?_append_left h]
    rw [e]
  · subst h
    simp [List.getD]
  · rw [if_neg (by omega : ¬ k = l.length)]
    have e1 : (l ++ [b])[k]? = none := List.getElem?_eq_none (by simp; omega)
    have e2 : l[k]? = none := List.getElem?_eq_none (by omega)
    simp [List.getD, e1, e2]
theorem bitN_end (l : List Bool) (k : Nat) (h : l.length ≤ k) : bitN l k = 0 := by
  unfold bitN
  simp [List.getD, List.getElem?_eq_none h]

/-- A bit more: in a byte of its own, or into the last byte. -/
theorem byteN_snoc (l : List Bool) (b : Bool) (i : Nat) (hi : i = l.length / 8) :
    byteN (l ++ [b]) i = byteN l i + (if b then 1 else 0) * 2 ^ (7 - l.length % 8) := by
  subst hi
  unfold byteN
  simp only [bitN_snoc]
  obtain ⟨q, r, hr, hl⟩ : ∃ q r, r < 8 ∧ l.length = 8 * q + r := ⟨l.length / 8, l.length % 8, by omega, by omega⟩
  rw [hl, show (8 * q + r) / 8 = q by omega, show (8 * q + r) % 8 = r by omega]
  have e : ∀ j, r ≤ j → bitN l (8 * q + j) = 0 := fun j hj => bitN_end l _ (by omega)
  have e0 := e 0; have e1 := e 1; have e2 := e 2; have e3 := e 3; have e4 := e 4; have e5 := e 5; have e6 := e 6; have e7 := e 7
  simp only [Nat.add_zero] at e0
  rcases (show r = 0 ∨ r = 1 ∨ r = 2 ∨ r = 3 ∨ r = 4 ∨ r = 5 ∨ r = 6 ∨ r = 7 by omega) with h | h | h | h | h | h | h | h <;> subst h <;> simp_all <;> cases b <;> simp <;> omega

theorem byteN_snoc_other (l : List Bool) (b : Bool) (i : Nat) (hi : i ≠ l.length / 8) : byteN (l ++ [b]) i = byteN l i := by
  unfold byteN
  simp only [bitN_snoc]
  have : ∀ j, j < 8 → ¬ (8 * i + j = l.length) := fun j hj h => by omega
  rw [if_neg (this 1 (by omega)), if_neg (this 2 (by omega)), if_neg (this 3 (by omega)), if_neg (this 4 (by omega)), if_neg (this 5 (by omega)), if_neg (this 6 (by omega)), if_neg (this 7 (by omega)), if_neg (by have := this 0 (by omega); simpa using this)]

theorem pack_snoc_new (l : List Bool) (h : l.length % 8 = 0) (b : Bool) : pack (l ++ [b]) = (pack l ++ [0]).set (l.length / 8) (byteN (l ++ [b]) (l.length / 8)) := by
  apply List.ext_getElem?
  intro i
  have hl : (pack l).length = l.length / 8 := by rw [pack_length]; omega
  by_cases h1 : i = l.length / 8
  · subst h1
    rw [pack_get _ _ (by simp; omega), List.getElem?_set_self (by simp [hl])]
  · rw [List.getElem?_set_ne (by omega)]
    by_cases h2 : i < l.length / 8
    · rw [pack_get _ _ (by simp; omega), List.getElem?_append_left (by omega), pack_get _ _ (by omega), byteN_snoc_other _ _ _ h1]
    · rw [List.getElem?_eq_none (by rw [pack_length]; simp; omega), List.getElem?_eq_none (by simp; omega)]

theorem pack_snoc_in (l : List Bool) (h : l.length % 8 ≠ 0) (b : Bool) : pack (l ++ [b]) = (pack l).set (l.length / 8) (byteN (l ++ [b]) (l.length / 8)) := by
  apply List.ext_getElem?
  intro i
  have hl : (pack l).length = l.length / 8 + 1 := by rw [pack_length]; omega
  by_cases h1 : i = l.length / 8
  · subst h1
    rw [pack_get _ _ (by simp; omega), List.getElem?_set_self (by omega)]
  · rw [List.getElem?_set_ne (by omega)]
    by_cases h2 : i < l.length / 8
    · rw [pack_get _ _ (by simp; omega), pack_get _ _ (by omega), byteN_snoc_other _ _ _ h1]
    · rw [List.getElem?_eq_none (by rw [pack_length]; simp; omega), List.getElem?_eq_none (by rw [pack_length]; omega)]

theorem byteN_mod (l : List Bool) : byteN l (l.length / 8) % 2 ^ (7 - l.length % 8 + 1) = 0 := by
  unfold byteN
  obtain ⟨q, r, hr, hl⟩ : ∃ q r, r < 8 ∧ l.length = 8 * q + r := ⟨l.length / 8, l.length % 8, by omega, by omega⟩
  rw [hl, show (8 * q + r) / 8 = q by omega, show (8 * q + r) % 8 = r by omega]
  have e : ∀ j, r ≤ j → bitN l (8 * q + j) = 0 := fun j hj => bitN_end l _ (by omega)
  have e0 := e 0; have e1 := e 1; have e2 := e 2; have e3 := e 3; have e4 := e 4; have e5 := e 5; have e6 := e 6; have e7 := e 7
  simp only [Nat.add_zero] at e0
  rcases (show r = 0 ∨ r = 1 ∨ r = 2 ∨ r = 3 ∨ r = 4 ∨ r = 5 ∨ r = 6 ∨ r = 7 by omega) with h | h | h | h | h | h | h | h <;> subst h <;> simp_all <;> omega

/-- What the program's '|=' makes of the byte. -/
theorem byteN_or (l : List Bool) (b : Bool) : byteN l (l.length / 8) ||| ((if b then 1 else 0) * 2 ^ (7 - l.length % 8)) = byteN (l ++ [b]) (l.length / 8) := by
  rw [byteN_snoc _ _ _ rfl]
  refine nat_join (7 - l.length % 8 + 1) _ _ (byteN_mod l) ?_
  rw [Nat.pow_succ]
  have := Nat.two_pow_pos (7 - l.length % 8)
  split <;> omega

theorem byteN_new (l : List Bool) (h : l.length % 8 = 0) : byteN l (l.length / 8) = 0 := by
  unfold byteN
  have e : ∀ j, bitN l (8 * (l.length / 8) + j) = 0 := fun j => bitN_end l _ (by omega)
  have e0 := e 0
  simp only [Nat.add_zero] at e0
  rw [e0, e 1, e 2, e 3, e 4, e 5, e 6, e 7]

theorem bitsOf_length (v n : Nat) : (bitsOf v n).length = n := by simp [bitsOf]
theorem bitsOf_take_succ (v n k : Nat) (h : k < n) : (bitsOf v n).take (k + 1) = (bitsOf v n).take k ++ [v.testBit (n - 1 - k)] := by
  rw [List.take_succ_eq_append_getElem (by simpa [bitsOf] using h)]
  simp [bitsOf]

/-! ### reading -/
/-- The k-th bit of bytes, the highest of each first. -/
def ubit (bs : List Nat) (k : Nat) : Bool := (bs.getD (k / 8) 0).testBit (7 - k % 8)
def unpack (bs : List Nat) : List Bool := (List.range (8 * bs.length)).map (ubit bs)
def b2n (b : Bool) : Nat := if b then 1 else 0
/-- The number that bits are, the highest first. -/
def num : List Bool → Nat := List.foldl (fun a b => 2 * a + b2n b) 0

theorem b2n_lt (b : Bool) : b2n b < 2 := by cases b <;> decide
theorem unpack_length (bs : List Nat) : (unpack bs).length = 8 * bs.length := by simp [unpack]
theorem unpack_get (bs : List Nat) (k : Nat) (h : k < 8 * bs.length) : (unpack bs)[k]? = some (ubit bs k) := by simp [unpack, h]
theorem num_snoc (l : List Bool) (b : Bool) : num (l ++ [b]) = 2 * num l + b2n b := by simp [num]
theorem num_nil : num [] = 0 := rfl
theorem num_lt (l : List Bool) : num l < 2 ^ l.length := by
  have : ∀ (l : List Bool) (a : Nat), List.foldl (fun a b => 2 * a + b2n b) a l < (a + 1) * 2 ^ l.length := by
    intro l
    induction l with
    | nil => intro a; simp
    | cons b l ih =>
      intro a
      simp only [List.foldl_cons, List.length_cons]
      refine Nat.lt_of_lt_of_le (ih _) ?_
      have := b2n_lt b
      rw [Nat.pow_succ, Nat.mul_comm (2 ^ l.length) 2, ← Nat.mul_assoc]
      exact Nat.mul_le_mul_right _ (by omega)
  have h := this l 0
  simpa [num] using h
/-- n bits from a place on. -/
def bitsAt (bs : List Nat) (at_ n : Nat) : List Bool := (List.range n).map fun j => ubit bs (at_ + j)
theorem bitsAt_succ (bs : List Nat) (at_ n : Nat) : bitsAt bs at_ (n + 1) = bitsAt bs at_ n ++ [ubit bs (at_ + n)] := by simp [bitsAt, List.range_succ]
theorem bitsAt_length (bs : List Nat) (at_ n : Nat) : (bitsAt bs at_ n).length = n := by simp [bitsAt]
theorem bitsAt_eq (bs : List Nat) (at_ n : Nat) (h : at_ + n ≤ 8 * bs.length) : bitsAt bs at_ n = ((unpack bs).drop at_).take n := by
  apply List.ext_getElem?
  intro i
  simp only [bitsAt, List.getElem?_map, List.getElem?_take, List.getElem?_drop]
  by_cases hi : i < n
  · rw [if_pos hi, unpack_get _ _ (by omega)]; simp [hi]
  · rw [if_neg hi]; simp [hi]
/-- How many noughts there are from a place on, at most m. -/
def zerosAt (bs : List Nat) (at_ : Nat) : Nat → Nat
  | 0 => 0
  | m + 1 => if ubit bs at_ then 0 else zerosAt bs (at_ + 1) m + 1
theorem zerosAt_le (bs : List Nat) (m at_ : Nat) : zerosAt bs at_ m ≤ m := by
  induction m generalizing at_ with
  | zero => simp [zerosAt]
  | succ m ih => unfold zerosAt; split <;> have := ih (at_ + 1) <;> omega
theorem zerosAt_spec (bs : List Nat) (m at_ : Nat) : (∀ j, j < zerosAt bs at_ m → ubit bs (at_ + j) = false) ∧ (zerosAt bs at_ m < m → ubit bs (at_ + zerosAt bs at_ m) = true) := by
  induction m generalizing at_ with
  | zero => simp [zerosAt]
  | succ m ih =>
    unfold zerosAt
    split
    · rename_i h; exact ⟨fun j hj => by omega, fun _ => by simpa using h⟩
    · rename_i h
      obtain ⟨h1, h2⟩ := ih (at_ + 1)
      refine ⟨fun j hj => ?_, fun hj => ?_⟩
      · cases j with
        | zero => simpa using h
        | succ j => have := h1 j (by omega); rwa [show at_ + 1 + j = at_ + (j + 1) by omega] at this
      · have := h2 (by omega); rwa [show at_ + 1 + zerosAt bs (at_ + 1) m = at_ + (zerosAt bs (at_ + 1) m + 1) by omega] at this
/-- Told by what it is. -/
theorem zerosAt_eq (bs : List Nat) (m at_ n : Nat) (hn : n ≤ m) (h1 : ∀ j, j < n → ubit bs (at_ + j) = false) (h2 : n < m → ubit bs (at_ + n) = true) : zerosAt bs at_ m = n := by
  obtain ⟨a, b⟩ := zerosAt_spec bs m at_
  have hle := zerosAt_le bs m at_
  rcases Nat.lt_trichotomy (zerosAt bs at_ m) n with h | h | h
  · have e1 := h1 _ h; have e2 := b (by omega); rw [e1] at e2; cases e2
  · exact h
  · have e1 := a _ h; have e2 := h2 (by omega); rw [e1] at e2; cases e2

theorem ubit_pack' (l : List Bool) (k : Nat) (h : k < 8 * ((l.length + 7) / 8)) : ubit (pack l) k = l.getD k false := by
  unfold ubit
  have e : (pack l).getD (k / 8) 0 = byteN l (k / 8) := by
    rw [List.getD_eq_getElem?_getD, pack_get _ _ (by omega)]; rfl
  rw [e, Nat.testBit_eq_decide_div_mod_eq]
  have key : byteN l (k / 8) / 2 ^ (7 - k % 8) % 2 = bitN l k := by
    unfold byteN
    have h0 := bitN_lt l (8*(k/8)); have h1 := bitN_lt l (8*(k/8)+1); have h2 := bitN_lt l (8*(k/8)+2); have h3 := bitN_lt l (8*(k/8)+3)
    have h4 := bitN_lt l (8*(k/8)+4); have h5 := bitN_lt l (8*(k/8)+5); have h6 := bitN_lt l (8*(k/8)+6); have h7 := bitN_lt l (8*(k/8)+7)
    obtain ⟨q, r, hr, hk⟩ : ∃ q r, r < 8 ∧ k = 8 * q + r := ⟨k / 8, k % 8, by omega, by omega⟩
    subst hk
    rw [show (8 * q + r) / 8 = q by omega] at *
    rw [show (8 * q + r) % 8 = r by omega]
    rcases (show r = 0 ∨ r = 1 ∨ r = 2 ∨ r = 3 ∨ r = 4 ∨ r = 5 ∨ r = 6 ∨ r = 7 by omega) with h | h | h | h | h | h | h | h <;> subst h <;> simp only [Nat.add_zero, Nat.reduceSub, Nat.reducePow] <;> omega
  rw [key]
  unfold bitN
  cases l.getD k false <;> simp
theorem ubit_pack (l : List Bool) (k : Nat) (h : k < l.length) : ubit (pack l) k = l.getD k false := ubit_pack' l k (by omega)
theorem bitsAt_pack (l : List Bool) (at_ n : Nat) (h : at_ + n ≤ l.length) : bitsAt (pack l) at_ n = (l.drop at_).take n := by
  apply List.ext_getElem?
  intro i
  simp only [bitsAt, List.getElem?_map, List.getElem?_take, List.getElem?_drop]
  by_cases hi : i < n
  · rw [if_pos hi]
    have : at_ + i < l.length := by omega
    simp [hi, ubit_pack l (at_ + i) this, List.getElem?_eq_getElem this]
  · rw [if_neg hi]; simp [hi]
theorem num_bitsOf (v n : Nat) (h : v < 2 ^ n) : num (bitsOf v n) = v := by
  have : ∀ n v, num (bitsOf v n) = v % 2 ^ n := by
    intro n
    induction n with
    | zero => intro v; simp [bitsOf, num]; omega
    | succ n ih =>
      intro v
      have e : bitsOf v (n + 1) = bitsOf (v / 2) n ++ [v.testBit 0] := by
        have : List.map (fun j => v.testBit (n + 1 - 1 - j)) (List.range n) = List.map (fun j => (v / 2).testBit (n - 1 - j)) (List.range n) := by
          apply List.map_congr_left
          intro j hj
          have hj' := List.mem_range.1 hj
          rw [Nat.testBit_div_two]
          congr 1
          omega
        unfold bitsOf
        rw [List.range_succ, List.map_append, this]
        simp
      rw [e, num_snoc, ih, Nat.testBit_zero]
      unfold b2n
      rw [Nat.pow_succ]
      have h1 : v % (2 ^ n * 2) = 2 * (v / 2 % 2 ^ n) + v % 2 := by
        rw [Nat.mul_comm, Nat.mod_mul]; omega
      rw [h1]
      rcases Nat.mod_two_eq_zero_or_one v with h | h <;> simp [h]
  rw [this, Nat.mod_eq_of_lt h]

/-! ### numbers in whole bytes -/
def bigB (n k : Nat) : List Nat := (List.range k).map fun i => n / 256 ^ (k - 1 - i) % 256
def numB : List Nat → Nat := List.foldl (fun a b => 256 * a + b) 0
theorem bigB_length (n k : Nat) : (bigB n k).length = k := by simp [bigB]
theorem bigB_lt (n k : Nat) : ∀ b ∈ bigB n k, b < 256 := by
  intro b hb
  obtain ⟨i, _, rfl⟩ := List.mem_map.1 hb
  exact Nat.mod_lt _ (by decide)
theorem numB_snoc (l : List Nat) (b : Nat) : numB (l ++ [b]) = 256 * numB l + b := by simp [numB]
theorem numB_lt (l : List Nat) (h : ∀ b ∈ l, b < 256) : numB l < 256 ^ l.length := by
  have : ∀ (l : List Nat) (a : Nat), (∀ b ∈ l, b < 256) → List.foldl (fun a b => 256 * a + b) a l < (a + 1) * 256 ^ l.length := by
    intro l
    induction l with
    | nil => intro a _; simp
    | cons b l ih =>
      intro a h
      simp only [List.foldl_cons, List.length_cons]
      refine Nat.lt_of_lt_of_le (ih _ fun b hb => h b (List.mem_cons_of_mem _ hb)) ?_
      have := h b (List.mem_cons_self ..)
      rw [Nat.pow_succ, Nat.mul_comm (256 ^ l.length) 256, ← Nat.mul_assoc]
      exact Nat.mul_le_mul_right _ (by omega)
  have h2 := this l 0 h
  simpa [numB] using h2
theorem bigB_succ (n k : Nat) : bigB n (k + 1) = bigB (n / 256) k ++ [n % 256] := by
  have : List.map (fun i => n / 256 ^ (k + 1 - 1 - i) % 256) (List.range k) = List.map (fun i => n / 256 / 256 ^ (k - 1 - i) % 256) (List.range k) := by
    apply List.map_congr_left
    intro i hi
    have hi' := List.mem_range.1 hi
    rw [Nat.div_div_eq_div_mul, ← Nat.pow_succ']
    congr 3
    omega
  unfold bigB
  rw [List.range_succ, List.map_append, this]
  simp
theorem numB_bigB (n k : Nat) : numB (bigB n k) = n % 256 ^ k := by
  induction k generalizing n with
  | zero => simp [bigB, numB]; omega
  | succ k ih =>
    rw [bigB_succ, numB_snoc, ih, Nat.pow_succ, Nat.mul_comm (256 ^ k) 256, Nat.mod_mul]
    omega
theorem bigB_numB (l : List Nat) (h : ∀ b ∈ l, b < 256) : bigB (numB l) l.length = l := by
  have : ∀ k (l : List Nat), l.length = k → (∀ b ∈ l, b < 256) → bigB (numB l) k = l := by
    intro k
    induction k with
    | zero => intro l hl _; rw [List.eq_nil_of_length_eq_zero hl]; rfl
    | succ k ih =>
      intro l hl hb
      obtain ⟨m, b, rfl⟩ : ∃ m b, l = m ++ [b] := by
        rcases List.eq_nil_or_concat l with h | ⟨m, b, h⟩
        · subst h; simp at hl
        · exact ⟨m, b, by simpa using h⟩
      have hb1 : b < 256 := hb b (by simp)
      have e1 : (256 * numB m + b) / 256 = numB m := by omega
      have e2 : (256 * numB m + b) % 256 = b := by omega
      rw [numB_snoc, bigB_succ, e1, e2, ih m (by simpa using hl) (fun x hx => hb x (by simp [hx]))]
  exact this l.length l rfl h

theorem set_fill {α : Type} (l : List α) (z : α) (k i : Nat) (hl : l.length = k) (hi : i < k) (x : α) (hx : l[i]? = some x) :
    (l.take i ++ List.replicate (k - i) z).set i x = l.take (i + 1) ++ List.replicate (k - (i + 1)) z := by
  rw [show k - i = (k - (i + 1)) + 1 by omega, List.replicate_succ, List.set_append_right _ _ (by simp; omega)]
  have : i - (l.take i).length = 0 := by simp; omega
  rw [this, List.set_cons_zero, List.take_add_one, hx]
  simp

end Go.Proofs.YtakmkjdmonmilaaDoor
