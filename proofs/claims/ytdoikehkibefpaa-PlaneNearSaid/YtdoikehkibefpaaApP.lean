import Derived.Test.YtdoikehkibefpaaPPbx6
import Derived.Test.YtdoikehkibefpaaPPbx8
import Derived.Test.YtdoikehkibefpaaPPbx9
import Derived.Test.YtdoikehkibefpaaRSame
import Derived.Test.YtdoikehkibefpaaPlaneCc
import Derived.Test.YtdoikehkibefpaaPlaneFc
import Derived.Laws.FloatArith
/-! How far frames are apart: plain. -/
namespace Go.Proofs.Ytdoikehkibefpaa
set_option linter.unusedSimpArgs false
set_option linter.unusedVariables false
open Go Go.RowKit Go.Proofs.Ytdoikehkibefpaa.PPb Go.Proofs.YtdoikehkibefpaaW.PrintWords

/-! The reference's Same, of any two -/
theorem rs_l1 (a b c a2 b2 c2 : Int) (d d2 : Bool) (L M : List (List Int)) (hl : ∀ l ∈ L, l.length ≤ 140737488355328) (hn : L.length ≤ 100000000000000) (hLM : L.length = M.length) (i : Nat) (hi : i < L.length) (hr : (rd_L1 L (i : Int)).length = (rd_L1 M (i : Int)).length) (K : Nat) (v : Bool)
    (hK : ∀ k, K ≤ k → dailiesref06_Same.l0 k ((i + 1 : Nat) : Int) a b c d L a2 b2 c2 d2 M = some v) :
    ∀ (e j : Nat), j + e = (rd_L1 L (i : Int)).length → ∀ k, K + e + 1 ≤ k → dailiesref06_Same.l1 k (i : Int) (j : Int) a b c d L a2 b2 c2 d2 M = some (decide ((rd_L1 L (i : Int)).drop j = (rd_L1 M (i : Int)).drop j) && v) := by
  have hlen : (rd_L1 L (i : Int)).length ≤ 140737488355328 := hl _ (getD_mem [] L i hi)
  intro e
  induction e with
  | zero =>
    intro j hj k hk
    obtain ⟨k, rfl⟩ : ∃ m, k = m + 1 := ⟨k - 1, by omega⟩
    simp only [dailiesref06_Same.l1]
    rw [if_pos (by omega), if_pos (by omega), if_neg (by omega), w64 (x := (i : Int) + 1) (by omega) (by omega), List.drop_of_length_le (by omega), List.drop_of_length_le (by omega), decide_eq_true rfl, Bool.true_and]
    exact hK k (by omega)
  | succ e ih =>
    intro j hj k hk
    obtain ⟨k, rfl⟩ : ∃ m, k = m + 1 := ⟨k - 1, by omega⟩
    have e1 : (rd_L1 L (i : Int)).drop j = (rd_L1 L (i : Int)).getD j 0 :: (rd_L1 L (i : Int)).drop (j + 1) := by
      rw [List.drop_eq_getElem_cons (by omega), List.getD_eq_getElem?_getD, List.getElem?_eq_getElem (by omega)]; rfl
    have e2 : (rd_L1 M (i : Int)).drop j = (rd_L1 M (i : Int)).getD j 0 :: (rd_L1 M (i : Int)).drop (j + 1) := by
      rw [List.drop_eq_getElem_cons (by omega), List.getD_eq_getElem?_getD, List.getElem?_eq_getElem (by omega)]; rfl
    simp only [dailiesref06_Same.l1]
    rw [if_pos (by omega), if_pos (by omega), if_pos (by omega), if_pos (by omega), if_pos (by omega), if_pos (by omega)]
    have r1 : rd (rd_L1 L (i : Int)) (j : Int) = (rd_L1 L (i : Int)).getD j 0 := rfl
    have r2 : rd (rd_L1 M (i : Int)) (j : Int) = (rd_L1 M (i : Int)).getD j 0 := rfl
    rw [r1, r2]
    by_cases h : (rd_L1 L (i : Int)).getD j 0 = (rd_L1 M (i : Int)).getD j 0
    · rw [if_pos h, w64 (x := (j : Int) + 1) (by omega) (by omega)]
      have := ih (j + 1) (by omega) k (by omega)
      rw [show ((j : Int) + 1) = ((j + 1 : Nat) : Int) by omega, this, e1, e2, h]
      congr 2
      simp
    · rw [if_neg h, decide_eq_false (fun h2 => by rw [e1, e2] at h2; exact h (List.cons.inj h2).1)]
      rfl
theorem rs_l0 (a b c a2 b2 c2 : Int) (d d2 : Bool) (L M : List (List Int)) (hn : L.length ≤ 100000000000000) (hl : ∀ l ∈ L, l.length ≤ 140737488355328) (hLM : L.length = M.length) : ∀ (e i : Nat), i + e = L.length → ∃ K, ∀ k, K ≤ k → dailiesref06_Same.l0 k (i : Int) a b c d L a2 b2 c2 d2 M = some (decide (L.drop i = M.drop i)) := by
  intro e
  induction e with
  | zero =>
    intro i hi
    refine ⟨1, fun k hk => ?_⟩
    obtain ⟨k, rfl⟩ : ∃ m, k = m + 1 := ⟨k - 1, by omega⟩
    simp only [dailiesref06_Same.l0]
    rw [if_neg (by omega), List.drop_of_length_le (by omega), List.drop_of_length_le (by omega)]
    rfl
  | succ e ih =>
    intro i hi
    obtain ⟨K, hK⟩ := ih (i + 1) (by omega)
    have e1 : L.drop i = rd_L1 L (i : Int) :: L.drop (i + 1) := by
      rw [List.drop_eq_getElem_cons (by omega)]
      congr 1
      show _ = L.getD i []
      rw [List.getD_eq_getElem?_getD, List.getElem?_eq_getElem (by omega)]; rfl
    have e2 : M.drop i = rd_L1 M (i : Int) :: M.drop (i + 1) := by
      rw [List.drop_eq_getElem_cons (by omega)]
      congr 1
      show _ = M.getD i []
      rw [List.getD_eq_getElem?_getD, List.getElem?_eq_getElem (by omega)]; rfl
    refine ⟨K + (rd_L1 L (i : Int)).length + 3, fun k hk => ?_⟩
    obtain ⟨k, rfl⟩ : ∃ m, k = m + 1 := ⟨k - 1, by omega⟩
    simp only [dailiesref06_Same.l0]
    rw [if_pos (by omega), if_pos (by omega), if_pos (by omega)]
    by_cases hr : (rd_L1 L (i : Int)).length = (rd_L1 M (i : Int)).length
    · rw [if_pos (by omega)]
      have := rs_l1 a b c a2 b2 c2 d d2 L M hl hn hLM i (by omega) hr K _ hK (rd_L1 L (i : Int)).length 0 (by omega) k (by omega)
      rw [show (0 : Int) = ((0 : Nat) : Int) from rfl, this, e1, e2]
      congr 1
      rw [List.drop_zero, List.drop_zero, Bool.eq_iff_iff]
      simp
    · rw [if_neg (by omega), decide_eq_false (fun h => by rw [e1, e2] at h; exact hr (congrArg List.length (List.cons.inj h).1))]
theorem shapes_ne (W H D W2 H2 D2 : Int) (A A2 : Bool) : (!(W == W2) || (!(H == H2) || (!(D == D2) || !(A == A2)))) = decide (¬ (W = W2 ∧ H = H2 ∧ D = D2 ∧ A = A2)) := by
  rw [Bool.eq_iff_iff]
  simp only [decide_eq_true_eq, Bool.or_eq_true, Bool.not_eq_true', beq_eq_false_iff_ne, ne_eq, Classical.not_and_iff_not_or_not]
theorem rs_f (a b c a2 b2 c2 : Int) (d d2 : Bool) (L M : List (List Int)) (hn : L.length ≤ 100000000000000) (hl : ∀ l ∈ L, l.length ≤ 140737488355328) : ∃ k, dailiesref06_Same.f k a b c d L a2 b2 c2 d2 M = some (sameF a b c d L a2 b2 c2 d2 M) := by
  by_cases hs : a = a2 ∧ b = b2 ∧ c = c2 ∧ d = d2
  · have e1 : (!(a == a2) || (!(b == b2) || (!(c == c2) || !(d == d2)))) = false := by simp [hs]
    by_cases hLM : L.length = M.length
    · obtain ⟨K, hK⟩ := rs_l0 a b c a2 b2 c2 d d2 L M hn hl hLM L.length 0 (by omega)
      refine ⟨K + 1, ?_⟩
      unfold dailiesref06_Same.f
      have e2 : ((L.length : Int) != (M.length : Int)) = false := by simp [hLM]
      rw [e1, if_neg (by decide), e2]
      simp only [dailiesref06_Same.j0]
      rw [if_neg (by decide)]
      have := hK K (Nat.le_refl _)
      rw [show (0 : Int) = ((0 : Nat) : Int) from rfl, this]
      unfold sameF
      simp [hs]
    · refine ⟨1, ?_⟩
      unfold dailiesref06_Same.f
      have e2 : ((L.length : Int) != (M.length : Int)) = true := bne_iff_ne.2 (by omega)
      rw [e1, if_neg (by decide), e2]
      simp only [dailiesref06_Same.j0]
      rw [if_pos trivial]
      unfold sameF
      rw [decide_eq_false (fun h => hLM (congrArg List.length h.2))]
  · have e1 : (!(a == a2) || (!(b == b2) || (!(c == c2) || !(d == d2)))) = true := by rw [shapes_ne, decide_eq_true hs]
    refine ⟨1, ?_⟩
    unfold dailiesref06_Same.f
    rw [e1, if_pos rfl]
    simp only [dailiesref06_Same.j0]
    rw [if_pos trivial]
    unfold sameF
    rw [decide_eq_false (fun h => hs h.1)]

/-! What is wrong with two frames -/
def pairF (W H D : Int) (A : Bool) (l : List (List Int)) (W2 H2 D2 : Int) (A2 : Bool) (m : List (List Int)) : Int :=
  if valF W H D A l = 0 then (if valF W2 H2 D2 A2 m = 0 then (if W = W2 ∧ H = H2 ∧ D = D2 ∧ A = A2 then 0 else 61) else valF W2 H2 D2 A2 m) else valF W H D A l
theorem pairF_zero {W H D : Int} {A : Bool} {l : List (List Int)} {W2 H2 D2 : Int} {A2 : Bool} {m : List (List Int)} (h : pairF W H D A l W2 H2 D2 A2 m = 0) : FrameOk W H D A l ∧ FrameOk W H D A m ∧ W = W2 ∧ H = H2 ∧ D = D2 ∧ A = A2 := by
  unfold pairF at h
  by_cases h1 : valF W H D A l = 0
  · rw [if_pos h1] at h
    by_cases h2 : valF W2 H2 D2 A2 m = 0
    · rw [if_pos h2] at h
      by_cases h3 : W = W2 ∧ H = H2 ∧ D = D2 ∧ A = A2
      · obtain ⟨rfl, rfl, rfl, rfl⟩ := h3
        exact ⟨ok_of_valF h1, ok_of_valF h2, rfl, rfl, rfl, rfl⟩
      · rw [if_neg h3] at h
        exact absurd h (by decide)
    · rw [if_neg h2] at h
      exact absurd h h2
  · rw [if_neg h1] at h
    exact absurd h h1
theorem pair_f (W H D W2 H2 D2 : Int) (A A2 : Bool) (l m : List (List Int)) (hs : smp l) (hm : smp m) : plane_pair.f (0 + 12) W H D A l W2 H2 D2 A2 m = some (pairF W H D A l W2 H2 D2 A2 m) := by
  unfold plane_pair.f pairF
  rw [valid_f W H D A l hs 0, valid_f W2 H2 D2 A2 m hm 0, shapes_ne]
  simp only [Option.bind_some]
  by_cases h1 : valF W H D A l = 0
  · rw [if_pos h1, if_pos h1]
    by_cases h2 : valF W2 H2 D2 A2 m = 0
    · rw [if_pos h2, if_pos h2]
      by_cases h3 : W = W2 ∧ H = H2 ∧ D = D2 ∧ A = A2
      · rw [if_pos h3, decide_eq_false (fun h => h h3)]; rfl
      · rw [if_neg h3, decide_eq_true h3]; rfl
    · rw [if_neg h2, if_neg h2]
  · rw [if_neg h1, if_neg h1]
theorem both_f (W H D W2 H2 D2 : Int) (A A2 : Bool) (l m : List (List Int)) (hs : smp l) (hm : smp m) (hl : ∀ x ∈ l, x.length ≤ 140737488355328) (hl2 : ∀ x ∈ m, x.length ≤ 140737488355328) : dailiesref06_both.f (0 + 140737488355328 + 14) W H D A l W2 H2 D2 A2 m = some (pairF W H D A l W2 H2 D2 A2 m) := by
  unfold dailiesref06_both.f pairF
  rw [rvalid_f W H D A l _ hl (Nat.le_refl _) hs 0, rvalid_f W2 H2 D2 A2 m _ hl2 (Nat.le_refl _) hm 0, shapes_ne]
  simp only [Option.bind_some]
  by_cases h1 : valF W H D A l = 0
  · rw [if_pos h1, if_pos h1]
    by_cases h2 : valF W2 H2 D2 A2 m = 0
    · rw [if_pos h2, if_pos h2]
      by_cases h3 : W = W2 ∧ H = H2 ∧ D = D2 ∧ A = A2
      · rw [if_pos h3, decide_eq_false (fun h => h h3)]; rfl
      · rw [if_neg h3, decide_eq_true h3]; rfl
    · rw [if_neg h2, if_neg h2]
  · rw [if_neg h1, if_neg h1]

/-! Differences -/
def adf (u v : Int) : Int := if v < u then u - v else v - u
theorem adf_bd {u v : Int} (hu : 0 ≤ u ∧ u ≤ 65535) (hv : 0 ≤ v ∧ v ≤ 65535) : 0 ≤ adf u v ∧ adf u v ≤ 65535 := by unfold adf; split <;> omega
theorem adf_sq (u v : Int) : (u - v) * (u - v) = adf u v * adf u v := by
  unfold adf
  split
  · rfl
  · rw [← Int.neg_mul_neg (u - v) (u - v)]
    congr 1 <;> omega
def farK (x y : List Int) : Nat → Int
  | 0 => 0
  | k + 1 => if farK x y k < adf (x.getD k 0) (y.getD k 0) then adf (x.getD k 0) (y.getD k 0) else farK x y k
def sqK (x y : List Int) : Nat → Int
  | 0 => 0
  | k + 1 => sqK x y k + adf (x.getD k 0) (y.getD k 0) * adf (x.getD k 0) (y.getD k 0)
def rowIn (x : List Int) : Prop := ∀ v ∈ x, 0 ≤ v ∧ v ≤ 65535
theorem rowIn_at {x : List Int} (h : rowIn x) (k : Nat) : 0 ≤ x.getD k 0 ∧ x.getD k 0 ≤ 65535 := by
  by_cases hk : k < x.length
  · exact h _ (getD_mem 0 x k hk)
  · rw [List.getD_eq_getElem?_getD, List.getElem?_eq_none (by omega)]
    exact ⟨by decide, by decide⟩
theorem farK_bd {x y : List Int} (hx : rowIn x) (hy : rowIn y) : ∀ k, 0 ≤ farK x y k ∧ farK x y k ≤ 65535
  | 0 => ⟨by simp [farK], by simp [farK]⟩
  | k + 1 => by
    have := farK_bd hx hy k
    have := adf_bd (rowIn_at hx k) (rowIn_at hy k)
    rw [farK]
    split <;> omega
theorem sqK_bd {x y : List Int} (hx : rowIn x) (hy : rowIn y) : ∀ k, 0 ≤ sqK x y k ∧ sqK x y k ≤ 4294836225 * k
  | 0 => ⟨by simp [sqK], by simp [sqK]⟩
  | k + 1 => by
    have h1 := sqK_bd hx hy k
    have h2 := adf_bd (rowIn_at hx k) (rowIn_at hy k)
    have h3 := mul_bd (a := adf (x.getD k 0) (y.getD k 0)) (b := adf (x.getD k 0) (y.getD k 0)) (m := 65535) (n := 65535) h2.1 h2.2 h2.1 h2.2
    rw [sqK]
    omega
theorem far3 (f u v : Int) : (if (if f < u - v then u - v else f) < -(u - v) then -(u - v) else (if f < u - v then u - v else f)) = (if f < adf u v then adf u v else f) ∨ f < 0 := by
  by_cases h : f < 0
  · exact .inr h
  · left
    unfold adf
    split <;> split <;> split <;> (try split) <;> omega

/-- The four, behind k samples of plane i. -/
def farL (l m : List (List Int)) (i k : Nat) : List Int := (List.range 4).map fun j => if j < i then farK (l.getD j []) (m.getD j []) (l.getD j []).length else if j = i then farK (l.getD j []) (m.getD j []) k else 0
theorem farL_len (l m : List (List Int)) (i k : Nat) : (farL l m i k).length = 4 := by simp [farL]
theorem farL_at (l m : List (List Int)) (i k : Nat) (hi : i < 4) : (farL l m i k).getD i 0 = farK (l.getD i []) (m.getD i []) k := by
  unfold farL
  rw [List.getD_eq_getElem?_getD, List.getElem?_map, List.getElem?_range hi]
  simp
theorem farL_set (l m : List (List Int)) (i k k2 : Nat) (hi : i < 4) : (farL l m i k).set i (farK (l.getD i []) (m.getD i []) k2) = farL l m i k2 := by
  apply List.ext_getElem
  · simp [farL]
  · intro j h1 h2
    rw [List.length_set, farL_len] at h1
    rw [List.getElem_set]
    by_cases hj : i = j
    · subst hj
      rw [if_pos rfl]
      simp [farL]
    · rw [if_neg hj]
      simp [farL]
      by_cases h3 : j < i
      · rw [if_pos h3, if_pos h3]
      · rw [if_neg h3, if_neg h3, if_neg (fun e => hj e.symm), if_neg (fun e => hj e.symm)]
theorem farL_next (l m : List (List Int)) (i : Nat) : farL l m i (l.getD i []).length = farL l m (i + 1) 0 := by
  unfold farL
  apply List.map_congr_left
  intro j _
  by_cases h1 : j < i
  · rw [if_pos h1, if_pos (by omega)]
  · rw [if_neg h1]
    by_cases h2 : j = i
    · subst h2
      rw [if_pos rfl, if_pos (by omega)]
    · rw [if_neg h2, if_neg (by omega)]
      split <;> rfl
theorem farL_zero (l m : List (List Int)) : farL l m 0 0 = [0, 0, 0, 0] := by
  simp [farL, List.range_succ, farK]
/-- What Apart answers. -/
def apartF (W H D : Int) (A : Bool) (l : List (List Int)) (W2 H2 D2 : Int) (A2 : Bool) (m : List (List Int)) : List Int × Int :=
  if pairF W H D A l W2 H2 D2 A2 m = 0 then (farL l m l.length 0, 0) else ([0, 0, 0, 0], pairF W H D A l W2 H2 D2 A2 m)
theorem apartF_len {W H D : Int} {A : Bool} {l : List (List Int)} {W2 H2 D2 : Int} {A2 : Bool} {m : List (List Int)} : (apartF W H D A l W2 H2 D2 A2 m).1.length = 4 := by
  unfold apartF
  split
  · exact farL_len ..
  · rfl

/-! Quotients that are numbers -/
theorem f64_read {r : Nat} (h : r ≤ Ieee.double.infRung) : (∃ m p, Ieee.double.read r = .number false m p ∧ (0 < r → 0 < m)) ∧ r < Ieee.double.infRung ∨ (Ieee.double.read r = .infinity false ∧ r = Ieee.double.infRung) := by
  have e1 : Ieee.double.infRung = 9218868437227405312 := by decide
  have e2 : Ieee.double.signWeight = 9223372036854775808 := by decide
  have e3 : Ieee.double.binade = 4503599627370496 := by decide
  rw [e1] at h
  unfold Ieee.Format.read
  rw [e1, e2, e3]
  have h1 : r / 9223372036854775808 = 0 := Nat.div_eq_of_lt (by omega)
  have h2 : r % 9223372036854775808 = r := Nat.mod_eq_of_lt (by omega)
  simp only [h1, h2]
  by_cases h3 : r < 4503599627370496
  · left
    rw [if_pos h3]
    exact ⟨⟨_, _, rfl, fun h => h⟩, by omega⟩
  · rw [if_neg h3]
    by_cases h4 : r < 9218868437227405312
    · left
      rw [if_pos h4]
      exact ⟨⟨_, _, rfl, fun h => by omega⟩, h4⟩
    · right
      rw [if_neg h4, if_pos (by omega)]
      exact ⟨rfl, by omega⟩
theorem f64_near (mag : Nat) (p : Int) : Ieee.double.nearest false mag p ≤ Ieee.double.infRung := by
  unfold Ieee.Format.nearest
  split
  · simp [Ieee.Format.word]
  · simp only [Ieee.Format.word, Bool.false_eq_true, if_false]
    exact Nat.min_le_right _ _
theorem f64_fin (lg q : Nat) (h : lg < 52) (hq : q < 9007199254740992) (hp : 0 < q) : 0 < min ((lg + 1022) * 4503599627370496 + q) 9218868437227405312 ∧ min ((lg + 1022) * 4503599627370496 + q) 9218868437227405312 < 9218868437227405312 := by omega
theorem f64_int (n : Nat) (h0 : 0 < n) (h1 : n < 2 ^ 52) : 0 < Ieee.double.nearest false n 0 ∧ Ieee.double.nearest false n 0 < Ieee.double.infRung := by
  have e1 : Ieee.double.infRung = 9218868437227405312 := by decide
  have e3 : Ieee.double.binade = 4503599627370496 := by decide
  have e4 : Ieee.double.leastPlace = -1074 := by decide
  have e5 : Ieee.double.fractionBits = 52 := rfl
  have hlog : n.log2 < 52 := (Nat.log2_lt (by omega)).2 h1
  unfold Ieee.Format.nearest
  rw [if_neg (by omega)]
  simp only [Ieee.Format.word, Bool.false_eq_true, if_false, e1, e3, e4, e5]
  have hmax : max ((0 : Int) + (n.log2 : Int) - ((52 : Nat) : Int)) (-1074) = (n.log2 : Int) - 52 := by omega
  rw [hmax]
  have hz : (((n.log2 : Int) - 52) - 0).toNat = 0 := by omega
  rw [hz]
  have hk : (Ieee.Toward.even.cut false (n <<< ((0 : Int) - ((n.log2 : Int) - 52)).toNat) 0) = n <<< ((0 : Int) - ((n.log2 : Int) - 52)).toNat := by
    unfold Ieee.Toward.cut
    simp [Nat.mod_one]
  rw [hk]
  have hs : n <<< ((0 : Int) - ((n.log2 : Int) - 52)).toNat = n * 2 ^ (52 - n.log2) := by
    rw [Nat.shiftLeft_eq]
    congr 2
    omega
  rw [hs]
  have hlt : n * 2 ^ (52 - n.log2) < 2 ^ 53 := by
    have h2 : n < 2 ^ (n.log2 + 1) := Nat.lt_log2_self
    have h3 : 2 ^ (n.log2 + 1) * 2 ^ (52 - n.log2) = 2 ^ 53 := by rw [← Nat.pow_add]; congr 1; omega
    rw [← h3]
    exact Nat.mul_lt_mul_of_pos_right h2 (Nat.two_pow_pos _)
  have hpos : 0 < n * 2 ^ (52 - n.log2) := Nat.mul_pos h0 (Nat.two_pow_pos _)
  generalize n * 2 ^ (52 - n.log2) = q at *
  have ht : (((n.log2 : Int) - 52) - -1074).toNat = n.log2 + 1022 := by omega
  rw [ht]
  have h53 : (2 : Nat) ^ 53 = 9007199254740992 := by decide
  rw [h53] at hlt
  exact f64_fin _ _ hlog hlt hpos

def quoF (n : Int) (m : Nat) : Nat := (FloatKind.f64.format.div (FloatKind.f64.nearest n) (FloatKind.f64.nearest (m : Int))).getD 0
theorem order_self {d : Ieee.Datum} (h : (∃ s m p, d = .number s m p) ∨ ∃ s, d = .infinity s) : d.order d = some .eq := by
  rcases h with ⟨s, m, p, rfl⟩ | ⟨s, rfl⟩
  · simp [Ieee.Datum.order]
  · simp [Ieee.Datum.order]
theorem f64_order {r : Nat} (h : r ≤ Ieee.double.infRung) : Ieee.double.order r r = some .eq := by
  unfold Ieee.Format.order
  refine order_self ?_
  rcases f64_read h with ⟨⟨m, p, e, _⟩, _⟩ | ⟨e, _⟩
  · exact .inl ⟨_, _, _, e⟩
  · exact .inr ⟨_, e⟩
theorem quoF_ok (n : Int) (m : Nat) (hn : 0 ≤ n) (h0 : 0 < m) (h1 : m ≤ 16777216) : FloatKind.f64.format.div (FloatKind.f64.nearest n) (FloatKind.f64.nearest (m : Int)) = some (quoF n m) ∧ FloatKind.f64.format.order (quoF n m) (quoF n m) = some .eq := by
  have en : FloatKind.f64.nearest n = Ieee.double.nearest false n.toNat 0 := by
    unfold FloatKind.nearest FloatKind.encode
    have e1 : (decide (n < 0)) = false := decide_eq_false (by omega)
    have e2 : n.natAbs = n.toNat := by omega
    show Ieee.double.write (.number (decide (n < 0)) n.natAbs 0) = _
    rw [e1, e2]
    rfl
  have em : FloatKind.f64.nearest (m : Int) = Ieee.double.nearest false m 0 := by
    unfold FloatKind.nearest FloatKind.encode
    have e1 : (decide ((m : Int) < 0)) = false := decide_eq_false (by omega)
    show Ieee.double.write (.number (decide ((m : Int) < 0)) (m : Int).natAbs 0) = _
    rw [e1]
    rfl
  have key : ∃ r, FloatKind.f64.format.div (FloatKind.f64.nearest n) (FloatKind.f64.nearest (m : Int)) = some r ∧ r ≤ Ieee.double.infRung := by
    rw [en, em]
    show ∃ r, Ieee.double.div _ _ = some r ∧ _
    obtain ⟨hp, hf⟩ := f64_int m h0 (by have : (2 : Nat) ^ 52 = 4503599627370496 := by decide
                                        omega)
    rcases f64_read (Nat.le_of_lt hf) with ⟨⟨m2, p2, e2, hm2⟩, _⟩ | ⟨_, e2⟩
    · have hm2 := hm2 hp
      unfold Ieee.Format.div
      rw [e2]
      rcases f64_read (f64_near n.toNat 0) with ⟨⟨m1, p1, e1, _⟩, _⟩ | ⟨e1, _⟩
      · rw [e1]
        simp only [Ieee.Datum.quotient, if_neg (show ¬ m2 = 0 by omega), Option.map_some]
        exact ⟨_, rfl, f64_near _ _⟩
      · rw [e1]
        simp only [Ieee.Datum.quotient, Option.map_some]
        exact ⟨_, rfl, by show Ieee.double.word false Ieee.double.infRung ≤ _; simp [Ieee.Format.word]⟩
    · exact absurd hf (by rw [e2]; exact Nat.lt_irrefl _)
  obtain ⟨r, hr, hle⟩ := key
  have hq : quoF n m = r := by unfold quoF; rw [hr]; rfl
  rw [hq]
  exact ⟨hr, f64_order hle⟩
/-- What Error answers: the bits of a float, and the error. -/
def errF (W H D : Int) (A : Bool) (l : List (List Int)) (W2 H2 D2 : Int) (A2 : Bool) (m : List (List Int)) (p : Int) : Nat × Int :=
  if pairF W H D A l W2 H2 D2 A2 m = 0 then
    (if 0 ≤ p ∧ p < plN A then (quoF (sqK (l.getD p.toNat []) (m.getD p.toNat []) (l.getD p.toNat []).length) (l.getD p.toNat []).length, 0) else (0, 65))
  else (0, pairF W H D A l W2 H2 D2 A2 m)
end Go.Proofs.Ytdoikehkibefpaa
