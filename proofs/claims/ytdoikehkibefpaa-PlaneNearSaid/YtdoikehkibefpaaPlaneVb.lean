import Derived.Test.YtdoikehkibefpaaPPbx3
import Derived.Test.YtdoikehkibefpaaPPbx5
import Derived.Test.YtdoikehkibefpaaPlaneQb
/-! The plane's printed functions by plain words: frames, rectangles taken out. -/
namespace Go.Proofs.Ytdoikehkibefpaa
set_option linter.unusedSimpArgs false
set_option linter.unusedVariables false
open Go Go.RowKit Go.Proofs.Ytdoikehkibefpaa.PPb Go.Proofs.YtdoikehkibefpaaW.PrintWords Go.Proofs.YtdoikehkibefpaaW.PrintMore

def rowsOk (W H : Int) (ls : List (List Int)) : Prop := ∀ i : Nat, i < ls.length → ((ls.getD i []).length : Int) = wd W i * H
instance (W H : Int) (ls : List (List Int)) : Decidable (rowsOk W H ls) := by unfold rowsOk; infer_instance
def bigIn (D : Int) (l : List Int) : Bool := l.any fun v => decide (2 ^ D.toNat ≤ v)
/-- What Valid answers. -/
def valF (W H D : Int) (A : Bool) (ls : List (List Int)) : Int :=
  if okShape W H D A then (if (ls.length : Int) = plN A then (if rowsOk W H ls then (if ls.any (bigIn D) = true then 64 else 0) else 63) else 62) else 61

/-- Samples as they are: 16 bits each. -/
def smp (ls : List (List Int)) : Prop := ∀ l ∈ ls, ∀ v ∈ l, 0 ≤ v ∧ v ≤ 65535

theorem any_same {α : Type} (l : List α) (f g : α → Bool) (h : ∀ x ∈ l, f x = g x) : l.any f = l.any g := by
  induction l with
  | nil => rfl
  | cons a l ih => rw [List.any_cons, List.any_cons, h a List.mem_cons_self, ih fun x hx => h x (List.mem_cons_of_mem _ hx)]

theorem badAt_is {D v : Int} (hD : D = 10 ∨ D = 12) (hv : 0 ≤ v) : badAt D v = decide (2 ^ D.toNat ≤ v) := by
  unfold badAt
  rcases hD with rfl | rfl
  · rw [Bool.eq_iff_iff]
    simp
    omega
  · rw [Bool.eq_iff_iff]
    simp
    omega

theorem within_f {D : Int} (hD : D = 10 ∨ D = 12) (l : List Int) (hl : ∀ v ∈ l, 0 ≤ v ∧ v ≤ 65535) : plane_within.f l D = some (!bigIn D l) := by
  unfold plane_within.f withinF bigIn
  rw [if_pos (by omega), any_same l _ _ fun v hv => badAt_is hD (hl v hv).1]

theorem drop_any {α : Type} (z : α) (l : List α) (f : α → Bool) (i : Nat) (hi : i < l.length) : (l.drop i).any f = (f (l.getD i z) || (l.drop (i + 1)).any f) := by
  rw [List.drop_eq_getElem_cons hi, List.any_cons, List.getD_eq_getElem?_getD, List.getElem?_eq_getElem hi]; rfl


theorem valid_l1 {W H D : Int} {A : Bool} (ls : List (List Int)) (hD : D = 10 ∨ D = 12) (hs : smp ls) (hn : ls.length ≤ 100) : ∀ (d k i : Nat), i + d = ls.length → d < k →
    plane_Valid.l1 k ls (ls.length : Int) (i : Int) W H D A ls = some (if (ls.drop i).any (bigIn D) = true then 64 else 0) := by
  intro d
  induction d with
  | zero =>
    intro k i hi hk
    obtain ⟨k, rfl⟩ : ∃ m, k = m + 1 := ⟨k - 1, by omega⟩
    simp only [plane_Valid.l1]
    rw [if_neg (by omega), List.drop_eq_nil_of_le (by omega)]; rfl
  | succ d ih =>
    intro k i hi hk
    obtain ⟨k, rfl⟩ : ∃ m, k = m + 1 := ⟨k - 1, by omega⟩
    have hlt : i < ls.length := by omega
    simp only [plane_Valid.l1]
    rw [if_pos (by omega), if_pos (by omega), if_pos (by omega)]
    have e : rd_L1 ls (i : Int) = ls.getD i [] := rfl
    rw [e, within_f hD _ (hs _ (getD_mem _ _ _ hlt)), drop_any [] ls _ i hlt]
    simp only [Option.bind_some]
    cases hb : bigIn D (ls.getD i [])
    · simp only [Bool.not_false, if_true, Bool.false_or]
      rw [w64 (x := (i : Int) + 1) (by omega) (by omega)]
      exact ih k (i + 1) (by omega) (by omega)
    · simp

theorem valid_l0 {W H D : Int} {A : Bool} (ls : List (List Int)) (hW : 1 ≤ W ∧ W ≤ 4096) (hH : 1 ≤ H ∧ H ≤ 4096) (hD : D = 10 ∨ D = 12) (hs : smp ls) (hn : ls.length ≤ 100) : ∀ (d k i : Nat), i + d = ls.length → d + ls.length + 1 < k → (∀ j : Nat, j < i → ((ls.getD j []).length : Int) = wd W j * H) →
    plane_Valid.l0 k ls (ls.length : Int) (i : Int) W H D A ls = some (if rowsOk W H ls then (if ls.any (bigIn D) = true then 64 else 0) else 63) := by
  intro d
  induction d with
  | zero =>
    intro k i hi hk hj
    obtain ⟨k, rfl⟩ : ∃ m, k = m + 1 := ⟨k - 1, by omega⟩
    simp only [plane_Valid.l0]
    rw [if_neg (by omega), if_pos (show rowsOk W H ls from fun j hjl => hj j (by omega))]
    have := valid_l1 (W := W) (H := H) (A := A) ls hD hs hn ls.length k 0 (by omega) (by omega)
    rwa [List.drop_zero] at this
  | succ d ih =>
    intro k i hi hk hj
    obtain ⟨k, rfl⟩ : ∃ m, k = m + 1 := ⟨k - 1, by omega⟩
    have hlt : i < ls.length := by omega
    have hb := mul_bd (a := wd W i) (b := H) (m := 4096) (n := 4096) (by have := wd_bd (p := (i : Int)) hW.1 hW.2; omega) (wd_bd hW.1 hW.2).2 (by omega) hH.2
    simp only [plane_Valid.l0]
    rw [if_pos (by omega), if_pos (by omega), if_pos (by omega), width_f (i : Int) (by omega) (by omega)]
    simp only [Option.bind_some]
    have e : rd_L1 ls (i : Int) = ls.getD i [] := rfl
    rw [e, w64 (x := wd W i * H) (by omega) (by omega), w64 (x := (i : Int) + 1) (by omega) (by omega)]
    by_cases he : ((ls.getD i []).length : Int) = wd W i * H
    · rw [if_pos he]
      refine ih k (i + 1) (by omega) (by omega) fun j hji => ?_
      rcases Nat.lt_or_ge j i with h | h
      · exact hj j h
      · rw [show j = i by omega]; exact he
    · rw [if_neg he, if_neg (fun h => he (h i hlt))]


theorem valid_f (W H D : Int) (A : Bool) (ls : List (List Int)) (hs : smp ls) (k : Nat) : plane_Valid.f (k + 12) W H D A ls = some (valF W H D A ls) := by
  unfold plane_Valid.f valF
  rw [shaped_f W H D A (k + 7)]
  simp only [Option.bind_some]
  by_cases hok : okShape W H D A
  · rw [shp_ok hok, if_pos rfl, if_pos hok, planes_f]
    simp only [Option.bind_some]
    by_cases hl : (ls.length : Int) = plN A
    · have := plN_le A
      rw [if_pos hl, if_pos hl]
      exact valid_l0 ls hok.1 hok.2.1 hok.2.2.1 hs (by omega) ls.length _ 0 (by omega) (by omega) (fun j hj => by omega)
    · rw [if_neg hl, if_neg hl]
  · rw [shp_no hok, if_neg (by decide), if_neg hok]

/-! The reference's -/
theorem top_f {D : Int} (hD : D = 10 ∨ D = 12) : dailiesref06_Top.f D = some (2 ^ D.toNat - 1) := by
  rcases hD with rfl | rfl <;> decide +kernel

theorem beyond_l0 {D : Int} (hD : D = 10 ∨ D = 12) (l : List Int) (hl : ∀ v ∈ l, 0 ≤ v ∧ v ≤ 65535) (hn : l.length ≤ 140737488355328) : ∀ (d k i : Nat), i + d = l.length → d < k →
    dailiesref06_beyond.l0 k l D (i : Int) = some ((l.drop i).any fun v => decide (2 ^ D.toNat ≤ v)) := by
  intro d
  induction d with
  | zero =>
    intro k i hi hk
    obtain ⟨k, rfl⟩ : ∃ m, k = m + 1 := ⟨k - 1, by omega⟩
    simp only [dailiesref06_beyond.l0]
    rw [if_neg (by omega), List.drop_eq_nil_of_le (by omega)]; rfl
  | succ d ih =>
    intro k i hi hk
    obtain ⟨k, rfl⟩ : ∃ m, k = m + 1 := ⟨k - 1, by omega⟩
    have hlt : i < l.length := by omega
    have hv := hl _ (getD_mem 0 l i hlt)
    have e : rd l (i : Int) = l.getD i 0 := rfl
    simp only [dailiesref06_beyond.l0]
    rw [if_pos (by omega), if_pos (by omega), top_f hD, e, w64 (x := l.getD i 0) (by omega) (by omega), drop_any 0 l _ i hlt]
    simp only [Option.bind_some]
    by_cases h : 2 ^ D.toNat ≤ l.getD i 0
    · rw [if_pos (by omega), decide_eq_true h]; rfl
    · rw [if_neg (by omega), decide_eq_false h, w64 (x := (i : Int) + 1) (by omega) (by omega), Bool.false_or]
      exact ih k (i + 1) (by omega) (by omega)

theorem rvalid_l1 {W H D : Int} {A : Bool} (ls : List (List Int)) (M : Nat) (hM : ∀ l ∈ ls, l.length ≤ M) (hM2 : M ≤ 140737488355328) (hD : D = 10 ∨ D = 12) (hs : smp ls) (hn : ls.length ≤ 100) : ∀ (d k i : Nat), i + d = ls.length → d + M + 1 < k →
    dailiesref06_Valid.l1 k (i : Int) W H D A ls = some (if (ls.drop i).any (bigIn D) = true then 64 else 0) := by
  intro d
  induction d with
  | zero =>
    intro k i hi hk
    obtain ⟨k, rfl⟩ : ∃ m, k = m + 1 := ⟨k - 1, by omega⟩
    simp only [dailiesref06_Valid.l1]
    rw [if_neg (by omega), List.drop_eq_nil_of_le (by omega)]; rfl
  | succ d ih =>
    intro k i hi hk
    obtain ⟨k, rfl⟩ : ∃ m, k = m + 1 := ⟨k - 1, by omega⟩
    have hlt : i < ls.length := by omega
    have hm := getD_mem [] ls i hlt
    simp only [dailiesref06_Valid.l1]
    rw [if_pos (by omega), if_pos (by omega)]
    have e : rd_L1 ls (i : Int) = ls.getD i [] := rfl
    have hb := beyond_l0 hD (ls.getD i []) (hs _ hm) (Nat.le_trans (hM _ hm) hM2) (ls.getD i []).length k 0 (by omega) (by have := hM _ hm; omega)
    rw [List.drop_zero] at hb
    have hb' : dailiesref06_beyond.f k (ls.getD i []) D = some (bigIn D (ls.getD i [])) := hb
    rw [e, hb', drop_any [] ls _ i hlt]
    simp only [Option.bind_some]
    cases hb : bigIn D (ls.getD i [])
    · simp only [Bool.false_eq_true, if_false, Bool.false_or]
      rw [w64 (x := (i : Int) + 1) (by omega) (by omega)]
      exact ih k (i + 1) (by omega) (by omega)
    · simp

theorem rvalid_l0 {W H D : Int} {A : Bool} (ls : List (List Int)) (M : Nat) (hM : ∀ l ∈ ls, l.length ≤ M) (hM2 : M ≤ 140737488355328) (hW : 1 ≤ W ∧ W ≤ 4096) (hH : 1 ≤ H ∧ H ≤ 4096) (hD : D = 10 ∨ D = 12) (hs : smp ls) (hn : ls.length ≤ 100) : ∀ (d k i : Nat), i + d = ls.length → d + ls.length + M + 2 < k → (∀ j : Nat, j < i → ((ls.getD j []).length : Int) = wd W j * H) →
    dailiesref06_Valid.l0 k (i : Int) W H D A ls = some (if rowsOk W H ls then (if ls.any (bigIn D) = true then 64 else 0) else 63) := by
  intro d
  induction d with
  | zero =>
    intro k i hi hk hj
    obtain ⟨k, rfl⟩ : ∃ m, k = m + 1 := ⟨k - 1, by omega⟩
    simp only [dailiesref06_Valid.l0]
    rw [if_neg (by omega), if_pos (show rowsOk W H ls from fun j hjl => hj j (by omega))]
    have := rvalid_l1 (W := W) (H := H) (A := A) ls M hM hM2 hD hs hn ls.length k 0 (by omega) (by omega)
    rwa [List.drop_zero] at this
  | succ d ih =>
    intro k i hi hk hj
    obtain ⟨k, rfl⟩ : ∃ m, k = m + 1 := ⟨k - 1, by omega⟩
    have hlt : i < ls.length := by omega
    have hb := mul_bd (a := wd W i) (b := H) (m := 4096) (n := 4096) (by have := wd_bd (p := (i : Int)) hW.1 hW.2; omega) (wd_bd hW.1 hW.2).2 (by omega) hH.2
    simp only [dailiesref06_Valid.l0]
    rw [if_pos (by omega), if_pos (by omega), rwide_f (i : Int) (by omega) (by omega)]
    simp only [Option.bind_some]
    have e : rd_L1 ls (i : Int) = ls.getD i [] := rfl
    rw [e, w64 (x := wd W i * H) (by omega) (by omega), w64 (x := (i : Int) + 1) (by omega) (by omega)]
    by_cases he : ((ls.getD i []).length : Int) = wd W i * H
    · rw [if_pos he]
      refine ih k (i + 1) (by omega) (by omega) fun j hji => ?_
      rcases Nat.lt_or_ge j i with h | h
      · exact hj j h
      · rw [show j = i by omega]; exact he
    · rw [if_neg he, if_neg (fun h => he (h i hlt))]

theorem rvalid_f (W H D : Int) (A : Bool) (ls : List (List Int)) (M : Nat) (hM : ∀ l ∈ ls, l.length ≤ M) (hM2 : M ≤ 140737488355328) (hs : smp ls) (k : Nat) : dailiesref06_Valid.f (k + M + 14) W H D A ls = some (valF W H D A ls) := by
  unfold dailiesref06_Valid.f valF
  rw [rshaped_f W H D A (k + M + 8)]
  simp only [Option.bind_some]
  by_cases hok : okShape W H D A
  · rw [shp_ok hok, if_pos rfl, if_pos hok, count_f]
    simp only [Option.bind_some]
    by_cases hl : (ls.length : Int) = plN A
    · have := plN_le A
      rw [if_pos hl, if_pos hl]
      exact rvalid_l0 ls M hM hM2 hok.1 hok.2.1 hok.2.2.1 hs (by omega) ls.length _ 0 (by omega) (by omega) (fun j hj => by omega)
    · rw [if_neg hl, if_neg hl]
  · rw [shp_no hok, if_neg (by decide), if_neg hok]

/-! What is taken out -/
def takenS (l : List Int) (w x y rw rh : Nat) : List Int := (List.range (rw * rh)).map fun i => l.getD ((y + i / rw) * w + x + i % rw) 0
theorem takenS_length (l : List Int) (w x y rw rh : Nat) : (takenS l w x y rw rh).length = rw * rh := by simp [takenS]
theorem takenS_get (l : List Int) (w x y rw rh i : Nat) (hi : i < rw * rh) : (takenS l w x y rw rh).getD i 0 = l.getD ((y + i / rw) * w + x + i % rw) 0 := by
  rw [List.getD_eq_getElem?_getD]
  simp [takenS, hi]

theorem taken_row (l : List Int) (s n : Nat) (h : s + n ≤ l.length) : ((l.take (s + n)).drop s) = (List.range n).map fun t => l.getD (s + t) 0 := by
  apply List.ext_getElem
  · simp; omega
  · intro i h1 h2
    simp at h1
    simp [List.getD_eq_getElem?_getD, List.getElem?_eq_getElem (show s + i < l.length by omega)]

theorem takenS_succ (l : List Int) (w x y rw j : Nat) (h0 : 0 < rw) : takenS l w x y rw (j + 1) = takenS l w x y rw j ++ (List.range rw).map fun t => l.getD ((y + j) * w + x + t) 0 := by
  unfold takenS
  rw [show rw * (j + 1) = rw * j + rw by rw [Nat.mul_add, Nat.mul_one], List.range_add, List.map_append, List.map_map]
  congr 1
  apply List.map_congr_left
  intro t ht
  have ht' : t < rw := by simpa using ht
  have e1 : (rw * j + t) / rw = j := by rw [Nat.mul_add_div h0, Nat.div_eq_of_lt ht', Nat.add_zero]
  have e2 : (rw * j + t) % rw = t := by rw [Nat.mul_add_mod, Nat.mod_eq_of_lt ht']
  simp only [Function.comp]
  rw [e1, e2]

theorem w64_addN (a b : Nat) (h : a + b ≤ 4000000000000) : wrap64 ((a : Int) + (b : Int)) = ((a + b : Nat) : Int) := by
  rw [w64 (by omega) (by omega)]; push_cast; rfl
theorem w64_succN (a : Nat) (h : a + 1 ≤ 4000000000000) : wrap64 ((a : Int) + 1) = ((a + 1 : Nat) : Int) := by
  rw [w64 (by omega) (by omega)]; push_cast; rfl
theorem w64_mulN (a b : Nat) (h : a * b ≤ 4000000000000) : wrap64 ((a : Int) * (b : Int)) = ((a * b : Nat) : Int) := by
  have e : (a : Int) * (b : Int) = ((a * b : Nat) : Int) := by push_cast; rfl
  rw [e]
  generalize a * b = c at *
  exact w64 (by omega) (by omega)

end Go.Proofs.Ytdoikehkibefpaa
