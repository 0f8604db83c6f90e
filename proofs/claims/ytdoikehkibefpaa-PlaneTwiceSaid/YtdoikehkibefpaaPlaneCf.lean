import Derived.Test.YtdoikehkibefpaaPPfx9
import Derived.Test.YtdoikehkibefpaaPlaneVf
/-! Rectangles cut out of all planes; the statement's own rectangles. -/
namespace Go.Proofs.Ytdoikehkibefpaa
set_option linter.unusedSimpArgs false
set_option linter.unusedVariables false
open Go Go.RowKit Go.Proofs.Ytdoikehkibefpaa.PPf Go.Proofs.YtdoikehkibefpaaW.PrintWords Go.Proofs.YtdoikehkibefpaaW.PrintMore

/-- A frame that may be. -/
structure FrameOk (W H D : Int) (A : Bool) (ls : List (List Int)) : Prop where
  shape : okShape W H D A
  len : (ls.length : Int) = plN A
  rows : rowsOk W H ls
  low : ls.any (bigIn D) = false
theorem valF_ok {W H D : Int} {A : Bool} {ls : List (List Int)} (h : FrameOk W H D A ls) : valF W H D A ls = 0 := by
  unfold valF
  rw [if_pos h.shape, if_pos h.len, if_pos h.rows, h.low]; rfl
theorem ok_of_valF {W H D : Int} {A : Bool} {ls : List (List Int)} (h : valF W H D A ls = 0) : FrameOk W H D A ls := by
  unfold valF at h
  by_cases h1 : okShape W H D A
  · rw [if_pos h1] at h
    by_cases h2 : (ls.length : Int) = plN A
    · rw [if_pos h2] at h
      by_cases h3 : rowsOk W H ls
      · rw [if_pos h3] at h
        cases h4 : ls.any (bigIn D)
        · exact ⟨h1, h2, h3, h4⟩
        · rw [h4] at h; simp at h
      · rw [if_neg h3] at h; simp at h
    · rw [if_neg h2] at h; simp at h
  · rw [if_neg h1] at h; simp at h

/-- The parts of a rectangle, plane by plane. -/
def cutL (W : Int) (ls : List (List Int)) (x y w h : Int) : List (List Int) :=
  (List.range ls.length).map fun p => takenS (ls.getD p []) (wd W p).toNat (partX p x).toNat y.toNat (partW p w).toNat h.toNat

theorem part_fits {x y w h W H : Int} (hw : wholeIn x y w h W H) (p : Int) : 0 ≤ partX p x ∧ 1 ≤ partW p w ∧ partX p x + partW p w ≤ wd W p := by
  obtain ⟨⟨h1, h2, h3, h4, h5, h6, h7, h8⟩, e1, e2⟩ := hw
  unfold partX partW wd
  split <;> omega

theorem rows_at {W H : Int} {ls : List (List Int)} (hr : rowsOk W H ls) (hW : 1 ≤ W ∧ W ≤ 4096) (hH : 1 ≤ H ∧ H ≤ 4096) (i : Nat) (hi : i < ls.length) : (ls.getD i []).length = (wd W i).toNat * H.toNat := by
  have h1 := hr i hi
  have h2 := wd_bd (p := (i : Int)) hW.1 hW.2
  have e1 : wd W i = ((wd W i).toNat : Int) := by omega
  have e2 : H = (H.toNat : Int) := by omega
  rw [e1, e2] at h1
  exact_mod_cast h1

theorem cut_l0 {W H D : Int} {A : Bool} {ls : List (List Int)} (hok : FrameOk W H D A ls) {x y w h : Int} (hw : wholeIn x y w h W H) : ∀ (d k i : Nat), i + d = ls.length → d + 4098 < k →
    plane_Cut.l0 k ls (ls.length : Int) (i : Int) W H D A ls x y w h w h D A ((List.range i).map fun p => takenS (ls.getD p []) (wd W p).toNat (partX p x).toNat y.toNat (partW p w).toNat h.toNat) =
      some (w, h, D, A, cutL W ls x y w h, 0) := by
  have hW := hok.shape.1
  have hH := hok.shape.2.1
  have hn : ls.length ≤ 4 := by have := hok.len; have := plN_le A; omega
  have hw' := hw
  obtain ⟨⟨h1, h2, h3, h4, h5, h6, h7, h8⟩, e1, e2⟩ := hw'
  intro d
  induction d with
  | zero =>
    intro k i hi hk
    obtain ⟨k, rfl⟩ : ∃ m, k = m + 1 := ⟨k - 1, by omega⟩
    simp only [plane_Cut.l0]
    rw [if_neg (by omega), show i = ls.length by omega]
    rfl
  | succ d ih =>
    intro k i hi hk
    obtain ⟨k, rfl⟩ : ∃ m, k = m + 1 := ⟨k - 1, by omega⟩
    have hlt : i < ls.length := by omega
    have hp := part_fits hw (i : Int)
    have hwd := wd_bd (p := (i : Int)) hW.1 hW.2
    have hlen := rows_at hok.rows hW hH i hlt
    have hb : (wd W i).toNat * H.toNat ≤ 4096 * 4096 := Nat.mul_le_mul (by omega) (by omega)
    have ht := taken_f (ls.getD i []) (wd W i).toNat (partX i x).toNat y.toNat (partW i w).toNat h.toNat (by omega) (by omega)
      (by rw [hlen, Nat.mul_comm]; exact Nat.mul_le_mul_left _ (by omega)) (by omega) (by omega) k (by omega)
    rw [Int.toNat_of_nonneg (by omega), Int.toNat_of_nonneg (by omega), Int.toNat_of_nonneg (by omega), Int.toNat_of_nonneg (by omega), Int.toNat_of_nonneg (by omega)] at ht
    simp only [plane_Cut.l0]
    rw [if_pos (by omega), if_pos (by omega), if_pos (by omega), width_f (i : Int) (by omega) (by omega)]
    simp only [Option.bind_some]
    rw [part_f (i : Int) x y w h (by omega) (by omega)]
    simp only [Option.bind_some]
    have e : rd_L1 ls (i : Int) = ls.getD i [] := rfl
    rw [e, ht]
    simp only [Option.bind_some]
    rw [if_pos (by simp; omega), w64 (x := (i : Int) + 1) (by omega) (by omega)]
    have := ih k (i + 1) (by omega) (by omega)
    rw [List.range_succ, List.map_append] at this
    exact this

theorem cut_f {W H D : Int} {A : Bool} {ls : List (List Int)} (hok : FrameOk W H D A ls) (hs : smp ls) {x y w h : Int} (hw : wholeIn x y w h W H) (k : Nat) :
    plane_Cut.f (k + 5000) W H D A ls x y w h = some (w, h, D, A, cutL W ls x y w h, 0) := by
  have hW := hok.shape.1
  have hH := hok.shape.2.1
  have hn : ls.length ≤ 4 := by have := hok.len; have := plN_le A; omega
  unfold plane_Cut.f
  rw [valid_f W H D A ls hs (k + 4988), valF_ok hok]
  simp only [Option.bind_some, if_true]
  rw [whole_f D A x y w h (by omega) (by omega), decide_eq_true hw]
  simp only [Option.bind_some, if_true]
  exact cut_l0 hok hw ls.length (k + 5000) 0 (by omega) (by omega)

theorem cutL_length (W : Int) (ls : List (List Int)) (x y w h : Int) : (cutL W ls x y w h).length = ls.length := by simp [cutL]
theorem cutL_get (W : Int) (ls : List (List Int)) (x y w h : Int) (p : Nat) (hp : p < ls.length) : (cutL W ls x y w h).getD p [] = takenS (ls.getD p []) (wd W p).toNat (partX p x).toNat y.toNat (partW p w).toNat h.toNat := by
  rw [List.getD_eq_getElem?_getD]
  simp [cutL, hp]

theorem takenS_mem {l : List Int} {w x y rw rh : Nat} (hw : x + rw ≤ w) (hh : (y + rh) * w ≤ l.length) : ∀ v ∈ takenS l w x y rw rh, v ∈ l := by
  intro v hv
  obtain ⟨i, hi, rfl⟩ := List.mem_map.1 hv
  have hi' : i < rw * rh := by simpa using hi
  have h0 : 0 < rw := by
    rcases Nat.eq_zero_or_pos rw with h | h
    · subst h; simp at hi'
    · exact h
  refine getD_mem 0 l _ ?_
  have h1 : i / rw < rh := Nat.div_lt_of_lt_mul hi'
  have h2 : i % rw < rw := Nat.mod_lt _ h0
  have h3 : (y + i / rw) * w + w ≤ (y + rh) * w := by
    rw [show (y + i / rw) * w + w = (y + i / rw + 1) * w by rw [Nat.add_mul (y + i / rw) 1, Nat.one_mul]]
    exact Nat.mul_le_mul_right _ (by omega)
  omega

theorem takenS_takenS (l : List Int) {w x y rw rh x2 y2 w2 h2 : Nat} (hw : x2 + w2 ≤ rw) (hh : y2 + h2 ≤ rh) : takenS (takenS l w x y rw rh) rw x2 y2 w2 h2 = takenS l w (x + x2) (y + y2) w2 h2 := by
  unfold takenS
  apply List.map_congr_left
  intro i hi
  have hi' : i < w2 * h2 := by simpa using hi
  have h0 : 0 < w2 := by
    rcases Nat.eq_zero_or_pos w2 with h | h
    · subst h; simp at hi'
    · exact h
  have h1 : i / w2 < h2 := Nat.div_lt_of_lt_mul hi'
  have h2' : i % w2 < w2 := Nat.mod_lt _ h0
  generalize i / w2 = a at *
  generalize i % w2 = b at *
  have hI : (y2 + a) * rw + x2 + b < rw * rh := by
    have : (y2 + a) * rw + rw ≤ rh * rw := by
      rw [show (y2 + a) * rw + rw = (y2 + a + 1) * rw by rw [Nat.add_mul (y2 + a) 1, Nat.one_mul]]
      exact Nat.mul_le_mul_right _ (by omega)
    rw [Nat.mul_comm rw rh]
    omega
  have hg := takenS_get l w x y rw rh _ hI
  unfold takenS at hg
  rw [hg]
  have e1 : ((y2 + a) * rw + x2 + b) / rw = y2 + a := by
    rw [Nat.mul_comm, Nat.add_assoc, Nat.mul_add_div (by omega), Nat.div_eq_of_lt (by omega), Nat.add_zero]
  have e2 : ((y2 + a) * rw + x2 + b) % rw = x2 + b := by
    rw [Nat.mul_comm, Nat.add_assoc, Nat.mul_add_mod, Nat.mod_eq_of_lt (by omega)]
  rw [e1, e2]
  congr 1
  rw [show y + (y2 + a) = y + y2 + a by omega]
  omega

theorem tot_mono {W H w h : Int} (A : Bool) (h1 : 1 ≤ w) (h2 : w ≤ W) (h3 : 1 ≤ h) (h4 : h ≤ H) : tot w h A ≤ tot W H A := by
  have a : w * h ≤ W * H := Int.mul_le_mul h2 h4 (by omega) (by omega)
  have b : (w + 1) / 2 * h ≤ (W + 1) / 2 * H := Int.mul_le_mul (by omega) h4 (by omega) (by omega)
  unfold tot
  split <;> omega

theorem low_of {D : Int} {l m : List Int} (h : ∀ v ∈ m, v ∈ l) (hl : bigIn D l = false) : bigIn D m = false := by
  unfold bigIn at *
  rw [List.any_eq_false] at *
  exact fun v hv => hl v (h v hv)

theorem any_false_mem {α : Type} {l : List α} {f : α → Bool} (h : l.any f = false) (x : α) (hx : x ∈ l) : f x = false := by
  rw [List.any_eq_false] at h
  simpa using h x hx

theorem cut_mem {W H D : Int} {A : Bool} {ls : List (List Int)} (hok : FrameOk W H D A ls) {x y w h : Int} (hw : wholeIn x y w h W H) (l : List Int) (hl : l ∈ cutL W ls x y w h) : ∃ m ∈ ls, ∀ v ∈ l, v ∈ m := by
  obtain ⟨p, hp, rfl⟩ := List.mem_map.1 hl
  have hp' : p < ls.length := by simpa using hp
  have hW := hok.shape.1
  have hH := hok.shape.2.1
  have hpf := part_fits hw (p : Int)
  have hwd := wd_bd (p := (p : Int)) hW.1 hW.2
  have hlen := rows_at hok.rows hW hH p hp'
  have hw' := hw
  obtain ⟨⟨h1, h2, h3, h4, h5, h6, h7, h8⟩, e1, e2⟩ := hw'
  refine ⟨ls.getD p [], getD_mem _ _ _ hp', takenS_mem (by omega) ?_⟩
  rw [hlen, Nat.mul_comm]
  exact Nat.mul_le_mul_left _ (by omega)

theorem cut_ok {W H D : Int} {A : Bool} {ls : List (List Int)} (hok : FrameOk W H D A ls) {x y w h : Int} (hw : wholeIn x y w h W H) : FrameOk w h D A (cutL W ls x y w h) := by
  have hW := hok.shape.1
  have hH := hok.shape.2.1
  have hw' := hw
  obtain ⟨⟨h1, h2, h3, h4, h5, h6, h7, h8⟩, e1, e2⟩ := hw'
  refine ⟨⟨by omega, by omega, hok.shape.2.2.1, Int.le_trans (tot_mono A h1 (by omega) h2 (by omega)) hok.shape.2.2.2⟩, by rw [cutL_length]; exact hok.len, ?_, ?_⟩
  · intro i hi
    rw [cutL_length] at hi
    have hpf := part_fits hw (i : Int)
    rw [cutL_get _ _ _ _ _ _ i hi, takenS_length]
    have : wd w i = partW i w := rfl
    rw [this]
    push_cast
    rw [Int.toNat_of_nonneg (by omega), Int.toNat_of_nonneg (by omega)]
  · rw [List.any_eq_false]
    intro l hl
    obtain ⟨m, hm, hlm⟩ := cut_mem hok hw l hl
    rw [low_of hlm (any_false_mem hok.low m hm)]
    simp

theorem cut_smp {W H D : Int} {A : Bool} {ls : List (List Int)} (hok : FrameOk W H D A ls) (hs : smp ls) {x y w h : Int} (hw : wholeIn x y w h W H) : smp (cutL W ls x y w h) := by
  intro l hl v hv
  obtain ⟨m, hm, hlm⟩ := cut_mem hok hw l hl
  exact hs m hm v (hlm v hv)

theorem whole_add {W H x y w h x2 y2 w2 h2 : Int} (a : wholeIn x y w h W H) (b : wholeIn x2 y2 w2 h2 w h) : wholeIn (x + x2) (y + y2) w2 h2 W H := by
  obtain ⟨⟨a1, a2, a3, a4, a5, a6, a7, a8⟩, a9, a10⟩ := a
  obtain ⟨⟨b1, b2, b3, b4, b5, b6, b7, b8⟩, b9, b10⟩ := b
  exact ⟨⟨b1, b2, by omega, by omega, by omega, by omega, by omega, by omega⟩, by omega, by omega⟩

theorem cut_cut {W H D : Int} {A : Bool} {ls : List (List Int)} (hok : FrameOk W H D A ls) {x y w h x2 y2 w2 h2 : Int} (a : wholeIn x y w h W H) (b : wholeIn x2 y2 w2 h2 w h) :
    cutL w (cutL W ls x y w h) x2 y2 w2 h2 = cutL W ls (x + x2) (y + y2) w2 h2 := by
  have a' := a
  obtain ⟨⟨a1, a2, a3, a4, a5, a6, a7, a8⟩, a9, a10⟩ := a'
  have b' := b
  obtain ⟨⟨b1, b2, b3, b4, b5, b6, b7, b8⟩, b9, b10⟩ := b'
  unfold cutL
  rw [List.length_map, List.length_range]
  apply List.map_congr_left
  intro p hp
  have hp' : p < ls.length := by simpa using hp
  have ha := part_fits a (p : Int)
  have hb := part_fits b (p : Int)
  have hg := cutL_get W ls x y w h p hp'
  unfold cutL at hg
  rw [hg]
  have e : wd w p = partW p w := rfl
  rw [e, takenS_takenS _ (by rw [e] at hb; omega) (by omega)]
  have e2 : (partX p x).toNat + (partX p x2).toNat = (partX p (x + x2)).toNat := by
    unfold partX
    split <;> omega
  have e3 : y.toNat + y2.toNat = (y + y2).toNat := by omega
  rw [e2, e3]

/-! The statement's rectangles -/
theorem wrap64_in (x : Int) : -9223372036854775808 ≤ wrap64 x ∧ wrap64 x ≤ 9223372036854775807 := by unfold wrap64; omega

theorem place_f {c n : Int} (hc : -9223372036854775808 ≤ c ∧ c ≤ 9223372036854775807) (hn : 0 < n) : ∃ r, dailieslaw06_place.f c n = some r ∧ 0 ≤ r ∧ r < n := by
  unfold dailieslaw06_place.f
  by_cases h : c < 0
  · rw [if_pos h, if_neg (by omega), w64 (x := c + 1) (by omega) (by omega), w64 (x := -(c + 1)) (by omega) (by omega), Int.tmod_eq_emod_of_nonneg (by omega)]
    exact ⟨_, rfl, Int.emod_nonneg _ (by omega), Int.emod_lt_of_pos _ hn⟩
  · rw [if_neg h, if_neg (by omega), Int.tmod_eq_emod_of_nonneg (by omega)]
    exact ⟨_, rfl, Int.emod_nonneg _ (by omega), Int.emod_lt_of_pos _ hn⟩

theorem part_law {W H x y : Int} (hW : 1 ≤ W ∧ W ≤ 4096) (hH : 1 ≤ H ∧ H ≤ 4096) (hx : -9223372036854775808 ≤ x ∧ x ≤ 9223372036854775807) (hy : -9223372036854775808 ≤ y ∧ y ≤ 9223372036854775807) :
    ∃ X Y w h, partV W H x y = (X, Y, w, h) ∧ liesIn X Y w h W H := by
  have hX := placeN_bd (c := x) (n := W) (by omega)
  have hY := placeN_bd (c := y) (n := H) (by omega)
  have hw := placeN_bd (c := Int.tdiv x 4096) (n := W - placeN x W) (by omega)
  have hh := placeN_bd (c := Int.tdiv y 4096) (n := H - placeN y H) (by omega)
  exact ⟨_, _, _, _, rfl, by omega, by omega, hX.1, hY.1, hX.2, hY.2, by omega, by omega⟩
theorem part_is {W H x y : Int} (hW : 1 ≤ W ∧ W ≤ 4096) (hH : 1 ≤ H ∧ H ≤ 4096) (hx : -9223372036854775808 ≤ x ∧ x ≤ 9223372036854775807) (hy : -9223372036854775808 ≤ y ∧ y ≤ 9223372036854775807) : dailieslaw06_part.f W H x y = some (partV W H x y) := if_pos ⟨hW, hH, hx, hy⟩

theorem whole_law {W H x y : Int} (D : Int) (A : Bool) (hW : 1 ≤ W ∧ W ≤ 4096) (hH : 1 ≤ H ∧ H ≤ 4096) (hx : -9223372036854775808 ≤ x ∧ x ≤ 9223372036854775807) (hy : -9223372036854775808 ≤ y ∧ y ≤ 9223372036854775807) :
    ∃ X Y w h, dailieslaw06_whole.f W H D A x y = some (X, Y, w, h) ∧ wholeIn X Y w h W H := by
  obtain ⟨X, Y, w, h, e, h1, h2, h3, h4, h5, h6, h7, h8⟩ := part_law hW hH hx hy
  have e2 : dailieslaw06_whole.f W H D A x y = some (wholeV W H x y) := if_pos ⟨hW, hH, hx, hy⟩
  rw [e2]
  unfold wholeV
  rw [e]
  simp only
  by_cases c1 : (w + X % 2) % 2 = 1 ∧ X - X % 2 + (w + X % 2) < W
  · rw [if_pos c1]
    exact ⟨_, _, _, _, rfl, ⟨by omega, by omega, by omega, by omega, by omega, by omega, by omega, by omega⟩, by omega, by omega⟩
  · rw [if_neg c1]
    exact ⟨_, _, _, _, rfl, ⟨by omega, by omega, by omega, by omega, by omega, by omega, by omega, by omega⟩, by omega, by omega⟩

end Go.Proofs.Ytdoikehkibefpaa
