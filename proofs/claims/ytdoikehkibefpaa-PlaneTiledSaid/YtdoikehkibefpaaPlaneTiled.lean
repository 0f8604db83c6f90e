import Derived.Test.YtdoikehkibefpaaPPax2
import Derived.Test.YtdoikehkibefpaaPPax5
import Derived.Test.YtdoikehkibefpaaPPax7
import Derived.Test.YtdoikehkibefpaaPlaneQ
import Derived.Test.YtdoikehkibefpaaPlaneR
namespace Go.Proofs.Ytdoikehkibefpaa
set_option linter.unusedSimpArgs false
set_option linter.unusedVariables false
open Go Go.RowKit Go.Proofs.Ytdoikehkibefpaa.PPa Go.Proofs.YtdoikehkibefpaaW.PrintWords Go.Proofs.YtdoikehkibefpaaW.PrintMore

theorem Ev_up {α : Type} {g f : Nat → Option α} {r : α} (h : ∀ k, 10 ≤ k → g (k + 1) = f k) (hf : Ev f r) : Ev g r := by
  obtain ⟨K, hK⟩ := hf
  refine ⟨K + 11, fun k hk => ?_⟩
  obtain ⟨m, rfl⟩ : ∃ m, k = m + 1 := ⟨k - 1, by omega⟩
  rw [h m (by omega)]
  exact hK m (by omega)

theorem tdiv_nat (j r : Nat) : Int.tdiv (j : Int) (r : Int) = ((j / r : Nat) : Int) := by
  rw [Int.tdiv_eq_ediv_of_nonneg (by omega)]; push_cast; rfl
theorem tmod_nat (j r : Nat) : Int.tmod (j : Int) (r : Int) = ((j % r : Nat) : Int) := by
  rw [Int.tmod_eq_emod_of_nonneg (by omega)]; push_cast; rfl

theorem w64n (n : Nat) (h : n ≤ 1000000000000000) : wrap64 (n : Int) = (n : Int) := by unfold wrap64; omega

theorem size_f (W H D : Int) (A : Bool) (p : Int) (k : Nat) : plane_Size.f (k + 5) W H D A p = some (if okShape W H D A then (if 0 ≤ p ∧ p < plN A then (wd W p, H, 0) else (0, 0, 65)) else (0, 0, 61)) := by
  unfold plane_Size.f
  rw [shaped_f]
  simp only [Option.bind_some]
  by_cases hs : okShape W H D A
  · rw [shp_ok hs, if_pos rfl, if_pos hs, there_f]
    simp only [Option.bind_some]
    by_cases hp : 0 ≤ p ∧ p < plN A
    · have := hs.1
      rw [decide_eq_true hp, if_pos rfl, if_pos hp, width_f p (by omega) (by omega)]; rfl
    · rw [decide_eq_false hp, if_neg (by simp), if_neg hp]
  · rw [shp_no hs, if_neg (by decide), if_neg hs]

theorem rsamples_f (W H D : Int) (A : Bool) (k : Nat) : dailiesref06_Samples.f (k + 6) W H D A = some (if okShape W H D A then (tot W H A, 0) else (0, 61)) := by
  unfold dailiesref06_Samples.f
  rw [rshaped_f]
  simp only [Option.bind_some]
  by_cases hs : okShape W H D A
  · rw [shp_ok hs, if_pos rfl, if_pos hs, rtotal_f D A hs.1 hs.2.1 (k + 1)]; rfl
  · rw [shp_no hs, if_neg (by decide), if_neg hs]

theorem place_r {c n : Int} (hc : -9223372036854775808 ≤ c ∧ c ≤ 9223372036854775807) (hn : 0 < n) : ∃ r : Nat, dailieslaw06_place.f c n = some (r : Int) ∧ (r : Int) < n := by
  unfold dailieslaw06_place.f
  by_cases h : c < 0
  · rw [if_pos h, if_neg (by omega), w64 (x := c + 1) (by omega) (by omega), w64 (x := -(c + 1)) (by omega) (by omega), Int.tmod_eq_emod_of_nonneg (by omega)]
    exact ⟨((-(c + 1)) % n).toNat, by rw [Int.toNat_of_nonneg (Int.emod_nonneg _ (by omega))], by rw [Int.toNat_of_nonneg (Int.emod_nonneg _ (by omega))]; exact Int.emod_lt_of_pos _ hn⟩
  · rw [if_neg h, if_neg (by omega), Int.tmod_eq_emod_of_nonneg (by omega)]
    exact ⟨(c % n).toNat, by rw [Int.toNat_of_nonneg (Int.emod_nonneg _ (by omega))], by rw [Int.toNat_of_nonneg (Int.emod_nonneg _ (by omega))]; exact Int.emod_lt_of_pos _ hn⟩

theorem plN_le' (A : Bool) : plN A ≤ 4 := by unfold plN; cases A <;> decide

def i64s (l : List Int) : Prop := ∀ x ∈ l, -9223372036854775808 ≤ x ∧ x ≤ 9223372036854775807

theorem raw_r {l : List Int} (hl : i64s l) (k : Nat) {n : Int} (hn : 0 < n) : ∃ r : Nat, dailieslaw06_raw.f l (k : Int) n = some (r : Int) ∧ (r : Int) < n := by
  unfold dailieslaw06_raw.f
  by_cases h : l.length = 0
  · rw [if_pos (by omega)]
    exact ⟨0, rfl, hn⟩
  · have hm : k % l.length < l.length := Nat.mod_lt _ (by omega)
    rw [if_neg (by omega), tmod_nat, if_pos (by omega), if_pos (by omega)]
    have e : rd l ((k % l.length : Nat) : Int) = l[k % l.length] := by
      show l.getD _ 0 = _
      rw [List.getD_eq_getElem?_getD, Int.toNat_natCast, List.getElem?_eq_getElem hm]; rfl
    obtain ⟨r, e1, e2⟩ := place_r (hl _ (List.getElem_mem hm)) hn
    rw [e, e1]
    exact ⟨r, rfl, e2⟩

/-- The times: one where p says so, else nought. -/
def Tms (ts : List Int) (w h : Nat) (p : Nat → Nat → Prop) : Prop :=
  ts.length = w * h ∧ ∀ yy xx, yy < h → xx < w → (p yy xx → ts.getD (yy * w + xx) 0 = 1) ∧ (¬ p yy xx → ts.getD (yy * w + xx) 0 = 0)

theorem Tms.imp {ts : List Int} {w h : Nat} {p q : Nat → Nat → Prop} (a : Tms ts w h p) (e : ∀ yy xx, yy < h → xx < w → (p yy xx ↔ q yy xx)) : Tms ts w h q :=
  ⟨a.1, fun yy xx hy hx => ⟨fun hq => (a.2 yy xx hy hx).1 ((e yy xx hy hx).2 hq), fun hq => (a.2 yy xx hy hx).2 fun hp => hq ((e yy xx hy hx).1 hp)⟩⟩

theorem idx_lt {w h y x : Nat} (hy : y < h) (hx : x < w) : y * w + x < w * h := by
  have : y * w + w ≤ h * w := by
    rw [show y * w + w = (y + 1) * w by rw [Nat.add_mul, Nat.one_mul]]
    exact Nat.mul_le_mul_right _ hy
  rw [Nat.mul_comm w h]
  omega
theorem idx_inj {w y x y2 x2 : Nat} (hx : x < w) (hx2 : x2 < w) (e : y * w + x = y2 * w + x2) : y = y2 ∧ x = x2 := by
  have h1 : (y * w + x) / w = y := by rw [Nat.mul_comm, Nat.mul_add_div (by omega), Nat.div_eq_of_lt hx, Nat.add_zero]
  have h2 : (y2 * w + x2) / w = y2 := by rw [Nat.mul_comm, Nat.mul_add_div (by omega), Nat.div_eq_of_lt hx2, Nat.add_zero]
  rw [e, h2] at h1
  subst h1
  exact ⟨rfl, by omega⟩

theorem Tms.hit {ts : List Int} {w h : Nat} {p : Nat → Nat → Prop} (a : Tms ts w h p) {y x : Nat} (hy : y < h) (hx : x < w) (hp : ¬ p y x) : Tms (ts.set (y * w + x) (ts.getD (y * w + x) 0 + 1)) w h (fun yy xx => p yy xx ∨ (yy = y ∧ xx = x)) := by
  refine ⟨by rw [List.length_set]; exact a.1, fun yy xx hyy hxx => ?_⟩
  have hlt := idx_lt hy hx
  by_cases e : yy = y ∧ xx = x
  · obtain ⟨rfl, rfl⟩ := e
    have : (ts.set (yy * w + xx) (ts.getD (yy * w + xx) 0 + 1)).getD (yy * w + xx) 0 = 1 := by
      rw [List.getD_eq_getElem?_getD, List.getElem?_set_self (by rw [a.1]; exact hlt)]
      simp only [Option.getD_some]
      rw [(a.2 yy xx hyy hxx).2 hp]; rfl
    exact ⟨fun _ => this, fun h => absurd (.inr ⟨rfl, rfl⟩) h⟩
  · have hne : y * w + x ≠ yy * w + xx := fun h => e (by have := idx_inj hx hxx h; exact ⟨this.1.symm, this.2.symm⟩)
    have : (ts.set (y * w + x) (ts.getD (y * w + x) 0 + 1)).getD (yy * w + xx) 0 = ts.getD (yy * w + xx) 0 := by
      rw [List.getD_eq_getElem?_getD, List.getElem?_set_ne hne, ← List.getD_eq_getElem?_getD]
    rw [this]
    exact ⟨fun h => (a.2 yy xx hyy hxx).1 (h.elim id fun h => absurd h e), fun h => (a.2 yy xx hyy hxx).2 fun hp => h (.inl hp)⟩

theorem l3_out (k : Nat) (x1 x2 : List Int) (x8 x10 x11 x12 : Int) (x14 : List Int) (x15 x16 x18 x19 x20 x23 x199000 x199001 x199002 : Int) (x199003 : Bool) (x216000 x216001 x216002 x216003 : Int) (h : ¬ x23 < wrap64 (x216002 * x216003)) :
    dailieslaw06_PlaneTiled.l3 (k + 1) x1 x2 x8 x10 x11 x12 x14 x15 x16 x18 x19 x20 x23 x199000 x199001 x199002 x199003 x216000 x216001 x216002 x216003 = dailieslaw06_PlaneTiled.l2 k x1 x2 x8 x10 x11 x12 x14 x15 x16 x18 (wrap64 (x19 + x20)) x199000 x199001 x199002 x199003 := by
  rw [dailieslaw06_PlaneTiled.l3, if_neg h]
theorem l3_in (k : Nat) (x1 x2 : List Int) (x8 x10 x11 x12 : Int) (x14 : List Int) (x15 x16 x18 x19 x20 x23 x199000 x199001 x199002 : Int) (x199003 : Bool) (x216000 x216001 x216002 x216003 : Int) (h : x23 < wrap64 (x216002 * x216003)) (h0 : x216002 ≠ 0) (idx : Nat)
    (he : wrap64 ((wrap64 ((wrap64 ((wrap64 (x216001 + (wrap64 (Int.tdiv x23 x216002)))) * x11)) + x216000)) + (Int.tmod x23 x216002)) = (idx : Int)) (hl : idx < x14.length) :
    dailieslaw06_PlaneTiled.l3 (k + 1) x1 x2 x8 x10 x11 x12 x14 x15 x16 x18 x19 x20 x23 x199000 x199001 x199002 x199003 x216000 x216001 x216002 x216003 = dailieslaw06_PlaneTiled.l3 k x1 x2 x8 x10 x11 x12 (x14.set idx (wrap64 (rd x14 idx + 1))) x15 x16 x18 x19 x20 (wrap64 (x23 + 1)) x199000 x199001 x199002 x199003 x216000 x216001 x216002 x216003 := by
  rw [dailieslaw06_PlaneTiled.l3, if_pos h, if_neg h0, he, if_pos (by omega), if_pos (by omega), Int.toNat_natCast]

theorem idx_e {y w X j rw_ q t : Nat} (hq : j / rw_ = q) (ht : j % rw_ = t) (h1 : y + q ≤ 10000) (h2 : (y + q) * w ≤ 100000000) (h3 : X ≤ 10000) (h4 : t ≤ 10000) :
    Aside0 (wrap64 ((wrap64 ((wrap64 ((wrap64 ((y : Int) + (wrap64 (Int.tdiv (j : Int) (rw_ : Int))))) * (w : Int))) + (X : Int))) + (Int.tmod (j : Int) (rw_ : Int))) = (((y + q) * w + (X + t) : Nat) : Int)) := by
  refine ⟨?_⟩
  rw [tdiv_nat, tmod_nat, hq, ht, w64n q (by omega), show (y : Int) + (q : Int) = ((y + q : Nat) : Int) by push_cast; rfl, w64n (y + q) (by omega)]
  generalize y + q = a at *
  rw [show ((a : Nat) : Int) * (w : Int) = ((a * w : Nat) : Int) by push_cast; rfl]
  generalize a * w = m at *
  rw [w64n m (by omega), show (m : Int) + (X : Int) = ((m + X : Nat) : Int) by push_cast; rfl, w64n (m + X) (by omega), show ((m + X : Nat) : Int) + (t : Int) = ((m + (X + t) : Nat) : Int) by push_cast; omega, w64n _ (by omega)]

section
variable {cols rows : List Int} {n : Int} {D : Int} {A : Bool} {W H i w : Nat}

/-- The last loop: each time is one. -/
theorem t4 (ts : List Int) (hC : Tms ts w H (fun _ _ => True)) (hw : 0 < w) (hlen : w * H ≤ 100000000)
    (hnext : Ev (fun k => dailieslaw06_PlaneTiled.l0 k cols rows n ((i + 1 : Nat) : Int) W H D A) true) (hi : i ≤ 10) : ∀ d j : Nat, j + d = w * H →
    Ev (fun k => dailieslaw06_PlaneTiled.l4 k cols rows n (i : Int) ts (j : Int) W H D A) true := by
  intro d
  induction d with
  | zero =>
    intro j hj
    refine Ev_up (f := fun k => dailieslaw06_PlaneTiled.l0 k cols rows n ((i + 1 : Nat) : Int) W H D A) (fun k _ => ?_) hnext
    simp only [dailieslaw06_PlaneTiled.l4]
    rw [if_neg (by rw [hC.1]; omega)]
    have : wrap64 ((i : Int) + 1) = ((i + 1 : Nat) : Int) := w64n (i + 1) (by omega)
    rw [this]
  | succ d ih =>
    intro j hj
    refine Ev_up (fun k _ => ?_) (ih (j + 1) (by omega))
    have hjl : j < w * H := by omega
    have h1 : j / w < H := Nat.div_lt_of_lt_mul hjl
    have h2 : j % w < w := Nat.mod_lt _ hw
    have e : rd ts (j : Int) = 1 := by
      show ts.getD _ 0 = _
      have := (hC.2 (j / w) (j % w) h1 h2).1 trivial
      rwa [Nat.div_add_mod' j w] at this
    simp only [dailieslaw06_PlaneTiled.l4]
    rw [if_pos (by rw [hC.1]; omega), if_pos (by omega), if_pos e]
    have : wrap64 ((j : Int) + 1) = ((j + 1 : Nat) : Int) := w64n (j + 1) (by omega)
    rw [this]

/-- A rectangle's samples, one by one. -/
theorem t3 {X y rw_ rh : Nat} {done : Nat → Nat → Prop} (at_ high x wide : Nat) (hX : X + rw_ ≤ w) (hy : y + rh ≤ H) (h0 : 0 < rw_) (hlen : w * H ≤ 100000000) (hw : w ≤ 4096) (hW : W ≤ 4096) (hH : H ≤ 4096) (hxw : x + wide ≤ 10000)
    (hd : ∀ yy xx, y ≤ yy → yy < y + rh → X ≤ xx → xx < X + rw_ → ¬ done yy xx)
    (hnext : ∀ ts, Tms ts w H (fun yy xx => done yy xx ∨ ((y ≤ yy ∧ yy < y + rh) ∧ X ≤ xx ∧ xx < X + rw_)) → Ev (fun k => dailieslaw06_PlaneTiled.l2 k cols rows n (i : Int) (w : Int) (H : Int) ts (at_ : Int) (y : Int) (high : Int) ((x + wide : Nat) : Int) W H D A) true) :
    ∀ (d j : Nat) (ts : List Int), j + d = rw_ * rh → Tms ts w H (fun yy xx => done yy xx ∨ (((y ≤ yy ∧ yy < y + rh) ∧ X ≤ xx ∧ xx < X + rw_) ∧ (yy - y) * rw_ + (xx - X) < j)) →
    Ev (fun k => dailieslaw06_PlaneTiled.l3 k cols rows n (i : Int) (w : Int) (H : Int) ts (at_ : Int) (y : Int) (high : Int) (x : Int) (wide : Int) (j : Int) W H D A (X : Int) (y : Int) (rw_ : Int) (rh : Int)) true := by
  have hprod : rw_ * rh ≤ 100000000 := Nat.le_trans (Nat.mul_le_mul (show rw_ ≤ w by omega) (show rh ≤ H by omega)) hlen
  have eprod : Aside0 (wrap64 ((rw_ : Int) * rh) = ((rw_ * rh : Nat) : Int)) := by
    refine ⟨?_⟩
    rw [show (rw_ : Int) * rh = ((rw_ * rh : Nat) : Int) by push_cast; rfl]; exact w64n _ (by omega)
  intro d
  induction d with
  | zero =>
    intro j ts hj hT
    have e1 : Aside0 (wrap64 ((x : Int) + wide) = ((x + wide : Nat) : Int)) := ⟨w64n (x + wide) (by omega)⟩
    have hz := hnext ts (hT.imp fun yy xx hyy hxx => ?_)
    · refine Ev_up (fun k _ => ?_) hz
      have h := l3_out k cols rows n (i : Int) (w : Int) (H : Int) ts (at_ : Int) (y : Int) (high : Int) (x : Int) (wide : Int) (j : Int) W H D A (X : Int) (y : Int) (rw_ : Int) (rh : Int) (by rw [eprod.out]; omega)
      rw [e1.out] at h
      exact h
    · constructor
      · rintro (h | h)
        · exact .inl h
        · exact .inr h.1
      · rintro (h | h)
        · exact .inl h
        · refine .inr ⟨h, ?_⟩
          have := idx_lt (w := rw_) (h := rh) (y := yy - y) (x := xx - X) (by omega) (by omega)
          omega
  | succ d ih =>
    intro j ts hj hT
    have hjl : j < rw_ * rh := by omega
    have hq : j / rw_ < rh := Nat.div_lt_of_lt_mul hjl
    have ht : j % rw_ < rw_ := Nat.mod_lt _ h0
    have hjd : j / rw_ * rw_ + j % rw_ = j := Nat.div_add_mod' j rw_
    have e4 := fun q t => @idx_e y w X j rw_ q t
    obtain ⟨q, hqe⟩ : ∃ q, j / rw_ = q := ⟨_, rfl⟩
    obtain ⟨t, hte⟩ : ∃ t, j % rw_ = t := ⟨_, rfl⟩
    have e4 := fun h1 h2 h3 h4 => e4 q t hqe hte h1 h2 h3 h4
    rw [hqe] at hq hjd
    rw [hte] at ht hjd
    clear hqe hte
    have hidx := idx_lt (w := w) (h := H) (y := y + q) (x := X + t) (by omega) (by omega)
    have hnp : ¬ (done (y + q) (X + t) ∨ (((y ≤ y + q ∧ y + q < y + rh) ∧ X ≤ X + t ∧ X + t < X + rw_) ∧ (y + q - y) * rw_ + (X + t - X) < j)) := by
      rintro (h | h)
      · exact hd _ _ (by omega) (by omega) (by omega) (by omega) h
      · have h2 := h.2
        rw [show y + q - y = q by omega, show X + t - X = t by omega, hjd] at h2
        omega
    have hT2 := hT.hit (y := y + q) (x := X + t) (by omega) (by omega) hnp
    have hn := ih (j + 1) _ (by omega) (hT2.imp fun yy xx hyy hxx => ?_)
    · have hmulw : (y + q) * w ≤ w * H := by rw [Nat.mul_comm w H]; exact Nat.mul_le_mul_right _ (by omega)
      have e2 : ts.getD ((y + q) * w + (X + t)) 0 = 0 := (hT.2 _ _ (by omega) (by omega)).2 hnp
      have e1 : Aside0 (wrap64 (rd ts (((y + q) * w + (X + t) : Nat) : Int) + 1) = ts.getD ((y + q) * w + (X + t)) 0 + 1) := by
        refine ⟨?_⟩
        show wrap64 (ts.getD ((y + q) * w + (X + t)) 0 + 1) = _
        rw [e2]; exact w64 (by omega) (by omega)
      have e3 : Aside0 (wrap64 ((j : Int) + 1) = ((j + 1 : Nat) : Int)) := ⟨w64n (j + 1) (by omega)⟩
      have e4 := e4 (by omega) (by omega) (by omega) (by omega)
      refine Ev_up (fun k _ => ?_) hn
      have := l3_in k cols rows n (i : Int) (w : Int) (H : Int) ts (at_ : Int) (y : Int) (high : Int) (x : Int) (wide : Int) (j : Int) W H D A (X : Int) (y : Int) (rw_ : Int) (rh : Int) (by rw [eprod.out]; omega) (by omega) _ e4.out (by rw [hT.1]; exact hidx)
      rw [e1.out, e3.out] at this
      exact this
    · constructor
      · rintro ((h | h) | ⟨rfl, rfl⟩)
        · exact .inl h
        · exact .inr ⟨h.1, by omega⟩
        · refine .inr ⟨⟨by omega, by omega⟩, ?_⟩
          rw [show y + q - y = q by omega, show X + t - X = t by omega, hjd]
          omega
      · rintro (h | h)
        · exact .inl (.inl h)
        · by_cases hlt : (yy - y) * rw_ + (xx - X) < j
          · exact .inl (.inr ⟨h.1, hlt⟩)
          · refine .inr ?_
            have he : (yy - y) * rw_ + (xx - X) = q * rw_ + t := by rw [hjd]; omega
            have := idx_inj (w := rw_) (by omega) ht he
            omega

end

theorem j5_ok (k : Nat) (x1 x2 : List Int) (x8 x10 x11 x12 : Int) (x14 : List Int) (x15 x16 x18 x19 x20 x199000 x199001 x199002 : Int) (x199003 : Bool) {X rw_ rh : Int}
    (hh : plane_Half.f k x199000 x199001 x199002 x199003 x10 x19 x16 x20 x18 = some (X, x16, rw_, rh, 0)) (h1 : 0 ≤ X) (h2 : 0 ≤ x16) (h3 : 1 ≤ rw_) (h4 : 1 ≤ rh) (h5 : X ≤ x11) (h6 : x16 ≤ x12) (h7 : rw_ ≤ x11 - X) (h8 : rh ≤ x12 - x16) (b1 : x11 ≤ 100000) (b2 : x12 ≤ 100000) :
    dailieslaw06_PlaneTiled.j5 (k + 1) x1 x2 x8 x10 x11 x12 x14 x15 x16 x18 x19 x20 x199000 x199001 x199002 x199003 = dailieslaw06_PlaneTiled.j6 k x1 x2 x8 x10 x11 x12 x14 x15 x16 x18 x19 x20 false x199000 x199001 x199002 x199003 X x16 rw_ rh := by
  rw [dailieslaw06_PlaneTiled.j5, hh]
  simp only [Option.bind_some]
  rw [if_pos trivial, if_neg (by omega), if_neg (by omega), if_neg (by omega), if_neg (by omega), if_neg (by omega), if_neg (by omega), w64 (x := x11 - X) (by omega) (by omega), if_neg (by omega), w64 (x := x12 - x16) (by omega) (by omega), decide_eq_false (by omega)]
theorem j6_ok (k : Nat) (x1 x2 : List Int) (x8 x10 x11 x12 : Int) (x14 : List Int) (x15 x16 x18 x19 x20 x199000 x199001 x199002 : Int) (x199003 : Bool) (X Y rw_ rh : Int) :
    dailieslaw06_PlaneTiled.j6 (k + 1) x1 x2 x8 x10 x11 x12 x14 x15 x16 x18 x19 x20 false x199000 x199001 x199002 x199003 X Y rw_ rh = dailieslaw06_PlaneTiled.l3 k x1 x2 x8 x10 x11 x12 x14 x15 x16 x18 x19 x20 0 x199000 x199001 x199002 x199003 X Y rw_ rh := by
  rw [dailieslaw06_PlaneTiled.j6, if_neg (by simp)]
theorem l2_in (k : Nat) (x1 x2 : List Int) (x8 x10 x11 x12 : Int) (x14 : List Int) (x15 x16 x18 x19 x199000 x199001 x199002 : Int) (x199003 : Bool) (t wide : Nat) (h : x19 < x199000) (b0 : 0 ≤ x19) (b1 : x199000 ≤ 4096) (ht : dailieslaw06_raw.f x1 (wrap64 ((wrap64 (Int.tdiv x19 2)) + x15)) 9 = some (t : Int)) (ht9 : t < 9)
    (hwide : (wide : Int) = if x19 + 2 * (1 + (t : Int)) > x199000 then x199000 - x19 else 2 * (1 + (t : Int))) :
    dailieslaw06_PlaneTiled.l2 (k + 1) x1 x2 x8 x10 x11 x12 x14 x15 x16 x18 x19 x199000 x199001 x199002 x199003 = dailieslaw06_PlaneTiled.j5 k x1 x2 x8 x10 x11 x12 x14 x15 x16 x18 x19 (wide : Int) x199000 x199001 x199002 x199003 := by
  rw [dailieslaw06_PlaneTiled.l2, if_pos h, ht]
  simp only [Option.bind_some]
  rw [w64 (x := 1 + (t : Int)) (by omega) (by omega), w64 (x := 2 * (1 + (t : Int))) (by omega) (by omega), w64 (x := x19 + 2 * (1 + (t : Int))) (by omega) (by omega), w64 (x := x199000 - x19) (by omega) (by omega), hwide]
  split <;> rfl
theorem l2_out (k : Nat) (x1 x2 : List Int) (x8 x10 x11 x12 : Int) (x14 : List Int) (x15 x16 x18 x19 x199000 x199001 x199002 : Int) (x199003 : Bool) (h : ¬ x19 < x199000) :
    dailieslaw06_PlaneTiled.l2 (k + 1) x1 x2 x8 x10 x11 x12 x14 x15 x16 x18 x19 x199000 x199001 x199002 x199003 = dailieslaw06_PlaneTiled.l1 k x1 x2 x8 x10 x11 x12 x14 x15 (wrap64 (x16 + x18)) x199000 x199001 x199002 x199003 := by
  rw [dailieslaw06_PlaneTiled.l2, if_neg h]
theorem l1_in (k : Nat) (x1 x2 : List Int) (x8 x10 x11 x12 : Int) (x14 : List Int) (x15 x16 x199000 x199001 x199002 : Int) (x199003 : Bool) (t : Nat) (h : x16 < x199001) (b0 : 0 ≤ x16) (b1 : x199001 ≤ 4096) (ht : dailieslaw06_raw.f x2 x16 (x199001 - x16) = some (t : Int)) (ht9 : (t : Int) < x199001 - x16) :
    dailieslaw06_PlaneTiled.l1 (k + 1) x1 x2 x8 x10 x11 x12 x14 x15 x16 x199000 x199001 x199002 x199003 = dailieslaw06_PlaneTiled.l2 k x1 x2 x8 x10 x11 x12 x14 (wrap64 (x15 + 1)) x16 ((1 + t : Nat) : Int) 0 x199000 x199001 x199002 x199003 := by
  rw [dailieslaw06_PlaneTiled.l1, if_pos h, w64 (x := x199001 - x16) (by omega) (by omega), ht]
  simp only [Option.bind_some]
  rw [w64 (x := 1 + (t : Int)) (by omega) (by omega), show (1 : Int) + t = ((1 + t : Nat) : Int) by push_cast; rfl]
theorem l1_out (k : Nat) (x1 x2 : List Int) (x8 x10 x11 x12 : Int) (x14 : List Int) (x15 x16 x199000 x199001 x199002 : Int) (x199003 : Bool) (h : ¬ x16 < x199001) :
    dailieslaw06_PlaneTiled.l1 (k + 1) x1 x2 x8 x10 x11 x12 x14 x15 x16 x199000 x199001 x199002 x199003 = dailieslaw06_PlaneTiled.l4 k x1 x2 x8 x10 x14 0 x199000 x199001 x199002 x199003 := by
  rw [dailieslaw06_PlaneTiled.l1, if_neg h]

/-- How far a row of rectangles has come in this plane. -/
def prog (W w i x : Nat) : Nat := if x = W then w else (partX (i : Int) (x : Int)).toNat

section
variable {cols rows : List Int} {n : Int} {D : Int} {A : Bool} {W H i w : Nat}

theorem t2 (hcols : i64s cols) (hok : okShape W H D A) (hi : (i : Int) < plN A) (hwd : (w : Int) = wd W i) (at_ high y : Nat) (hat : at_ ≤ 10000) (hy : y + high ≤ H) (h1 : 1 ≤ high)
    (hnext : ∀ ts, Tms ts w H (fun yy xx => yy < y + high) → Ev (fun k => dailieslaw06_PlaneTiled.l1 k cols rows n (i : Int) (w : Int) (H : Int) ts (at_ : Int) ((y + high : Nat) : Int) W H D A) true) :
    ∀ (d x : Nat) (ts : List Int), W - x ≤ d → x ≤ W → (x = W ∨ x % 2 = 0) → Tms ts w H (fun yy xx => yy < y ∨ ((y ≤ yy ∧ yy < y + high) ∧ xx < prog W w i x)) →
    Ev (fun k => dailieslaw06_PlaneTiled.l2 k cols rows n (i : Int) (w : Int) (H : Int) ts (at_ : Int) (y : Int) (high : Int) (x : Int) W H D A) true := by
  have hW := hok.1
  have hH := hok.2.1
  have hwb := wd_bd (p := (i : Int)) hW.1 hW.2
  have hlen : w * H ≤ 100000000 := Nat.le_trans (Nat.mul_le_mul (show w ≤ 4096 by omega) (show H ≤ 4096 by omega)) (by decide)
  have out : ∀ (ts : List Int), Tms ts w H (fun yy xx => yy < y ∨ ((y ≤ yy ∧ yy < y + high) ∧ xx < prog W w i W)) → Ev (fun k => dailieslaw06_PlaneTiled.l2 k cols rows n (i : Int) (w : Int) (H : Int) ts (at_ : Int) (y : Int) (high : Int) (W : Int) W H D A) true := by
    intro ts hT
    have e : Aside0 (wrap64 ((y : Int) + high) = ((y + high : Nat) : Int)) := ⟨w64n (y + high) (by omega)⟩
    have hp : prog W w i W = w := if_pos rfl
    rw [hp] at hT
    have hz := hnext ts (hT.imp fun yy xx hyy hxx => by omega)
    refine Ev_up (fun k _ => ?_) hz
    have := l2_out k cols rows n (i : Int) (w : Int) (H : Int) ts (at_ : Int) (y : Int) (high : Int) (W : Int) W H D A (by omega)
    rw [e.out] at this
    exact this
  intro d
  induction d with
  | zero =>
    intro x ts hd hxW _ hT
    obtain rfl : x = W := by omega
    exact out ts hT
  | succ d ih =>
    intro x ts hd hxW hx hT
    by_cases hxe : x = W
    · subst hxe
      exact out ts hT
    · have hx2 : x % 2 = 0 := hx.resolve_left hxe
      have hraw := raw_r hcols (x / 2 + at_) (show (0 : Int) < 9 by decide)
      obtain ⟨t, ht, ht9⟩ := hraw
      obtain ⟨wide, hwide⟩ : ∃ wide : Nat, (wide : Int) = if (x : Int) + 2 * (1 + (t : Int)) > W then (W : Int) - x else 2 * (1 + (t : Int)) := by
        by_cases c : (x : Int) + 2 * (1 + (t : Int)) > W
        · exact ⟨W - x, by rw [if_pos c]; omega⟩
        · exact ⟨2 * (1 + t), by rw [if_neg c]; omega⟩
      have hw1 : 1 ≤ wide ∧ x + wide ≤ W ∧ (wide % 2 = 0 ∨ x + wide = W) := by
        by_cases c : (x : Int) + 2 * (1 + (t : Int)) > W
        · rw [if_pos c] at hwide; omega
        · rw [if_neg c] at hwide; omega
      have hwhole : wholeIn (x : Int) (y : Int) (wide : Int) (high : Int) (W : Int) (H : Int) := ⟨⟨by omega, by omega, by omega, by omega, by omega, by omega, by omega, by omega⟩, by omega, by omega⟩
      have hhalf : halfR W H D A i x y wide high = (partX i x, (y : Int), partW i wide, (high : Int), 0) := by
        unfold halfR
        rw [if_pos hok, if_pos ⟨⟨by omega, hi⟩, hwhole⟩]
      have hXW : 0 ≤ partX i x ∧ 1 ≤ partW i wide ∧ partX i x + partW i wide ≤ wd W i ∧ ((x + wide = W ∧ partX i x + partW i wide = wd W i) ∨ (x + wide < W ∧ (x + wide) % 2 = 0 ∧ partX i x + partW i wide = partX i ((x + wide : Nat) : Int))) := by
        unfold partX partW wd
        split <;> omega
      obtain ⟨X, hXe⟩ : ∃ X : Nat, partX (i : Int) (x : Int) = (X : Int) := ⟨(partX i x).toNat, by omega⟩
      obtain ⟨rw_, hre⟩ : ∃ r : Nat, partW (i : Int) (wide : Int) = (r : Int) := ⟨(partW i wide).toNat, by omega⟩
      rw [hXe, hre] at hhalf hXW
      have hpx : prog W w i x = X := by unfold prog; rw [if_neg hxe, hXe]; rfl
      have hpn : prog W w i (x + wide) = X + rw_ := by
        unfold prog
        rcases hXW.2.2.2 with h | h
        · rw [if_pos h.1]; omega
        · rw [if_neg (by omega), ← h.2.2]; omega
      rw [hpx] at hT
      have eidx : Aside0 (wrap64 ((wrap64 (Int.tdiv (x : Int) 2)) + (at_ : Int)) = ((x / 2 + at_ : Nat) : Int)) := by
        refine ⟨?_⟩
        rw [tdiv2 (by omega), w64 (x := (x : Int) / 2) (by omega) (by omega), w64 (by omega) (by omega)]
        omega
      have H3 := t3 (cols := cols) (rows := rows) (n := n) (D := D) (A := A) (W := W) (H := H) (i := i) (w := w) (X := X) (y := y) (rw_ := rw_) (rh := high) (done := fun yy xx => yy < y ∨ ((y ≤ yy ∧ yy < y + high) ∧ xx < X)) at_ high x wide (by omega) hy (by omega) hlen (by omega) (by omega) (by omega) (by omega)
        (fun yy xx a1 a2 a3 a4 h => by rcases h with h | h <;> omega)
        (fun ts' hT' => ih (x + wide) ts' (by omega) (by omega) (by omega) (hT'.imp fun yy xx hyy hxx => by rw [hpn]; omega))
        (rw_ * high) 0 ts (by omega) (hT.imp fun yy xx hyy hxx => by
          constructor
          · intro h; exact .inl h
          · rintro (h | h)
            · exact h
            · exact absurd h.2 (Nat.not_lt_zero _))
      refine Ev_up (fun k hk => ?_) (Ev_up (g := fun k => dailieslaw06_PlaneTiled.j5 k cols rows n (i : Int) (w : Int) (H : Int) ts (at_ : Int) (y : Int) (high : Int) (x : Int) (wide : Int) W H D A) (fun k hk => ?_)
        (Ev_up (g := fun k => dailieslaw06_PlaneTiled.j6 k cols rows n (i : Int) (w : Int) (H : Int) ts (at_ : Int) (y : Int) (high : Int) (x : Int) (wide : Int) false W H D A (X : Int) (y : Int) (rw_ : Int) (high : Int)) (fun k hk => ?_) H3))
      · exact l2_in k cols rows n (i : Int) (w : Int) (H : Int) ts (at_ : Int) (y : Int) (high : Int) (x : Int) W H D A t wide (by omega) (by omega) (by omega) (by rw [eidx.out]; exact ht) (by omega) hwide
      · have hh := half_is W H D A i x y wide high (k - 5)
        rw [show k - 5 + 5 = k by omega, hhalf] at hh
        exact j5_ok k cols rows n (i : Int) (w : Int) (H : Int) ts (at_ : Int) (y : Int) (high : Int) (x : Int) (wide : Int) W H D A hh (by omega) (by omega) (by omega) (by omega) (by omega) (by omega) (by omega) (by omega) (by omega) (by omega)
      · exact j6_ok k cols rows n (i : Int) (w : Int) (H : Int) ts (at_ : Int) (y : Int) (high : Int) (x : Int) (wide : Int) W H D A (X : Int) (y : Int) (rw_ : Int) (high : Int)

theorem t1 (hcols : i64s cols) (hrows : i64s rows) (hok : okShape W H D A) (hi : (i : Int) < plN A) (hwd : (w : Int) = wd W i)
    (hnext : Ev (fun k => dailieslaw06_PlaneTiled.l0 k cols rows n ((i + 1 : Nat) : Int) W H D A) true) :
    ∀ (d at_ y : Nat) (ts : List Int), H - y ≤ d → y ≤ H → at_ ≤ y → Tms ts w H (fun yy xx => yy < y) →
    Ev (fun k => dailieslaw06_PlaneTiled.l1 k cols rows n (i : Int) (w : Int) (H : Int) ts (at_ : Int) (y : Int) W H D A) true := by
  have hW := hok.1
  have hH := hok.2.1
  have hwb := wd_bd (p := (i : Int)) hW.1 hW.2
  have hlen : w * H ≤ 100000000 := Nat.le_trans (Nat.mul_le_mul (show w ≤ 4096 by omega) (show H ≤ 4096 by omega)) (by decide)
  have hpl := plN_le' A
  have out : ∀ (at_ : Nat) (ts : List Int), Tms ts w H (fun yy xx => yy < H) → Ev (fun k => dailieslaw06_PlaneTiled.l1 k cols rows n (i : Int) (w : Int) (H : Int) ts (at_ : Int) (H : Int) W H D A) true := by
    intro at_ ts hT
    have H4 := t4 (cols := cols) (rows := rows) (n := n) (D := D) (A := A) (W := W) (H := H) (i := i) (w := w) ts (hT.imp fun yy xx hyy hxx => by simp; omega) (by omega) hlen hnext (by omega) (w * H) 0 (by omega)
    refine Ev_up (fun k _ => ?_) H4
    exact l1_out k cols rows n (i : Int) (w : Int) (H : Int) ts (at_ : Int) (H : Int) W H D A (by omega)
  intro d
  induction d with
  | zero =>
    intro at_ y ts hd hyH hat hT
    obtain rfl : y = H := by omega
    exact out at_ ts hT
  | succ d ih =>
    intro at_ y ts hd hyH hat hT
    by_cases hye : y = H
    · subst hye
      exact out at_ ts hT
    · obtain ⟨t, ht, ht9⟩ := raw_r hrows y (show (0 : Int) < (H : Int) - y by omega)
      have e1 : Aside0 (wrap64 ((at_ : Int) + 1) = ((at_ + 1 : Nat) : Int)) := ⟨w64n (at_ + 1) (by omega)⟩
      have hp0 : prog W w i 0 = 0 := by
        unfold prog
        rw [if_neg (by omega)]
        unfold partX
        split <;> rfl
      have H2 := t2 (cols := cols) (rows := rows) (n := n) (D := D) (A := A) (W := W) (H := H) (i := i) (w := w) hcols hok hi hwd (at_ + 1) (1 + t) y (by omega) (by omega) (by omega)
        (fun ts' hT' => ih (at_ + 1) (y + (1 + t)) ts' (by omega) (by omega) (by omega) hT')
        W 0 ts (by omega) (by omega) (by omega) (hT.imp fun yy xx hyy hxx => by rw [hp0]; omega)
      refine Ev_up (fun k _ => ?_) H2
      have := l1_in k cols rows n (i : Int) (w : Int) (H : Int) ts (at_ : Int) (y : Int) W H D A t (by omega) (by omega) (by omega) ht ht9
      rw [e1.out] at this
      exact this
end

theorem zeros_T (w H : Nat) : Tms (List.replicate (w * H) 0) w H (fun yy xx => yy < 0) :=
  ⟨by simp, fun yy xx hy hx => ⟨fun h => absurd h (Nat.not_lt_zero _), fun _ => by
    rw [List.getD_eq_getElem?_getD]
    simp [idx_lt hy hx]⟩⟩

theorem j2_ok (k : Nat) (x1 x2 : List Int) (x8 x10 : Int) (w H : Nat) (x199000 x199001 x199002 : Int) (x199003 : Bool) (hlen : w * H ≤ 100000000) :
    dailieslaw06_PlaneTiled.j2 (k + 1) x1 x2 x8 x10 (w : Int) (H : Int) false x199000 x199001 x199002 x199003 = dailieslaw06_PlaneTiled.l1 k x1 x2 x8 x10 (w : Int) (H : Int) (List.replicate (w * H) 0) 0 0 x199000 x199001 x199002 x199003 := by
  have e : wrap64 ((w : Int) * (H : Int)) = ((w * H : Nat) : Int) := by
    rw [show (w : Int) * (H : Int) = ((w * H : Nat) : Int) by push_cast; rfl]
    exact w64n _ (by omega)
  rw [dailieslaw06_PlaneTiled.j2, if_neg (by simp), e, if_pos (by omega), Int.toNat_natCast, if_pos (by omega)]

theorem l0_in (k : Nat) (x1 x2 : List Int) (x8 x10 : Int) (w H : Nat) (x199000 x199001 x199002 : Int) (x199003 : Bool) (hi : x10 < 4) (hs : plane_Size.f k x199000 x199001 x199002 x199003 x10 = some ((w : Int), (H : Int), 0)) (h1 : 1 ≤ w) (h2 : 1 ≤ H) (h3 : (w : Int) ≤ x8) (h4 : (H : Int) ≤ x8) (h5 : ((w * H : Nat) : Int) ≤ x8) (hlen : w * H ≤ 100000000) :
    dailieslaw06_PlaneTiled.l0 (k + 1) x1 x2 x8 x10 x199000 x199001 x199002 x199003 = dailieslaw06_PlaneTiled.j2 k x1 x2 x8 x10 (w : Int) (H : Int) false x199000 x199001 x199002 x199003 := by
  have e : wrap64 ((w : Int) * (H : Int)) = ((w * H : Nat) : Int) := by
    rw [show (w : Int) * (H : Int) = ((w * H : Nat) : Int) by push_cast; rfl]
    exact w64n _ (by omega)
  rw [dailieslaw06_PlaneTiled.l0, if_pos hi, hs]
  simp only [Option.bind_some]
  rw [if_pos trivial, if_neg (by omega), if_neg (by omega), if_neg (by omega), if_neg (by omega), e, decide_eq_false (by omega)]
theorem l0_none (k : Nat) (x1 x2 : List Int) (x8 : Int) (x199000 x199001 x199002 : Int) (hs : plane_Size.f k x199000 x199001 x199002 false 3 = some (0, 0, 65)) :
    dailieslaw06_PlaneTiled.l0 (k + 1) x1 x2 x8 3 x199000 x199001 x199002 false = dailieslaw06_PlaneTiled.l0 k x1 x2 x8 4 x199000 x199001 x199002 false := by
  rw [dailieslaw06_PlaneTiled.l0, if_pos (by decide), hs]
  simp only [Option.bind_some]
  rw [if_neg (by decide), if_neg (by decide), if_neg (by decide), w64 (x := 3 + 1) (by omega) (by omega)]
  rfl
theorem l0_out (k : Nat) (x1 x2 : List Int) (x8 : Int) (x199000 x199001 x199002 : Int) (A : Bool) : dailieslaw06_PlaneTiled.l0 (k + 1) x1 x2 x8 4 x199000 x199001 x199002 A = some true := by
  rw [dailieslaw06_PlaneTiled.l0, if_neg (by decide)]

section
variable {cols rows : List Int} {D : Int} {A : Bool} {W H : Nat}
theorem t0 (hcols : i64s cols) (hrows : i64s rows) (hok : okShape W H D A) (i : Nat) (hi : (i : Int) < plN A)
    (hnext : Ev (fun k => dailieslaw06_PlaneTiled.l0 k cols rows (tot W H A) ((i + 1 : Nat) : Int) W H D A) true) : Ev (fun k => dailieslaw06_PlaneTiled.l0 k cols rows (tot W H A) (i : Int) W H D A) true := by
  have hW := hok.1
  have hH := hok.2.1
  have hwb := wd_bd (p := (i : Int)) hW.1 hW.2
  obtain ⟨w, hwd⟩ : ∃ w : Nat, (w : Int) = wd W i := ⟨(wd W i).toNat, by omega⟩
  have hlen : w * H ≤ 100000000 := Nat.le_trans (Nat.mul_le_mul (show w ≤ 4096 by omega) (show H ≤ 4096 by omega)) (by decide)
  have hpl := plN_le' A
  have htot : ((W * H : Nat) : Int) ≤ tot W H A := by
    have b1 := mul_bd (a := ((W : Int) + 1) / 2) (b := H) (m := 4096) (n := 4096) (by omega) (by omega) (by omega) (by omega)
    have b0 := mul_bd (a := (W : Int)) (b := H) (m := 4096) (n := 4096) (by omega) (by omega) (by omega) (by omega)
    unfold tot
    push_cast
    split <;> omega
  have hwW : w ≤ W := by
    have : wd W i ≤ W := by unfold wd; split <;> omega
    omega
  have hm : w * H ≤ W * H := Nat.mul_le_mul_right _ hwW
  have hm1 : w * 1 ≤ w * H := Nat.mul_le_mul_left _ (by omega)
  have hm2 : 1 * H ≤ w * H := Nat.mul_le_mul_right _ (by omega)
  have H1 := t1 (cols := cols) (rows := rows) (n := tot W H A) (D := D) (A := A) (W := W) (H := H) (i := i) (w := w) hcols hrows hok hi hwd hnext H 0 0 (List.replicate (w * H) 0) (by omega) (by omega) (by omega) (zeros_T w H)
  refine Ev_up (f := fun k => dailieslaw06_PlaneTiled.j2 k cols rows (tot W H A) (i : Int) (w : Int) (H : Int) false W H D A) (fun k hk => ?_) (Ev_up (fun k hk => ?_) H1)
  · have hs := size_f W H D A i (k - 5)
    rw [show k - 5 + 5 = k by omega, if_pos hok, if_pos ⟨by omega, hi⟩, ← hwd] at hs
    exact l0_in k cols rows (tot W H A) (i : Int) w H W H D A (by omega) hs (by omega) (by omega) (by omega) (by omega) (by omega) hlen
  · exact j2_ok k cols rows (tot W H A) (i : Int) w H W H D A hlen
end

theorem tiled_f (W H D : Int) (A : Bool) (cols rows : List Int) (hcols : i64s cols) (hrows : i64s rows) : ∃ k, dailieslaw06_PlaneTiled.f k W H D A cols rows = some true := by
  have hE : Ev (fun k => dailieslaw06_PlaneTiled.f k W H D A cols rows) true := by
    by_cases hok : okShape W H D A
    · have hW := hok.1
      have hH := hok.2.1
      obtain ⟨W, rfl⟩ := Int.eq_ofNat_of_zero_le (show 0 ≤ W by omega)
      obtain ⟨H, rfl⟩ := Int.eq_ofNat_of_zero_le (show 0 ≤ H by omega)
      have e4 : Ev (fun k => dailieslaw06_PlaneTiled.l0 k cols rows (tot W H A) ((4 : Nat) : Int) W H D A) true := ⟨1, fun k hk => by
        obtain ⟨m, rfl⟩ : ∃ m, k = m + 1 := ⟨k - 1, by omega⟩
        exact l0_out m cols rows _ _ _ _ _⟩
      have e3 : Ev (fun k => dailieslaw06_PlaneTiled.l0 k cols rows (tot W H A) ((3 : Nat) : Int) W H D A) true := by
        cases A
        · refine Ev_up (fun k hk => ?_) e4
          have hs := size_f W H D false 3 (k - 5)
          rw [show k - 5 + 5 = k by omega, if_pos hok, if_neg (by decide)] at hs
          exact l0_none k cols rows _ _ _ _ hs
        · exact t0 hcols hrows hok 3 (by decide) e4
      have p3 : (3 : Int) ≤ plN A := by unfold plN; cases A <;> decide
      have e2 := t0 hcols hrows hok 2 (by omega) e3
      have e1 := t0 hcols hrows hok 1 (by omega) e2
      have e0 := t0 hcols hrows hok 0 (by omega) e1
      obtain ⟨K, hK⟩ := e0
      refine ⟨K + 60, fun k hk => ?_⟩
      obtain ⟨m, rfl⟩ : ∃ m, k = m + 40 := ⟨k - 40, by omega⟩
      have hz := hK (m + 39) (by omega)
      show dailieslaw06_PlaneTiled.f (m + 40) _ _ _ _ _ _ = some true
      unfold dailieslaw06_PlaneTiled.f
      rw [shown_at m, rsamples_f _ _ D A (m + 34), if_pos hok]
      simp only [Option.bind_some, if_true]
      rw [show ((0 : Int) != 0) = false from rfl, dailieslaw06_PlaneTiled.j0, if_neg (by simp)]
      exact hz
    · refine ⟨60, fun k hk => ?_⟩
      obtain ⟨m, rfl⟩ : ∃ m, k = m + 40 := ⟨k - 40, by omega⟩
      show dailieslaw06_PlaneTiled.f (m + 40) _ _ _ _ _ _ = some true
      unfold dailieslaw06_PlaneTiled.f
      rw [shown_at m, rsamples_f W H D A (m + 34), if_neg hok]
      simp only [Option.bind_some, if_true]
      rw [show ((61 : Int) != 0) = true from rfl, dailieslaw06_PlaneTiled.j0, if_pos rfl]
  exact hE.rounds

theorem planeTiled_walk {H : Type} {enc : TypeId × Value → H} (W : World) (base : Nat) (v0 v1 v2 : Value) (a0 : Arg enc Try.prog W base 26 v0) (a1 : Arg enc Try.prog W base 64 v1) (a2 : Arg enc Try.prog W base 64 v2) :
    Calls Try.prog 8 #[v0, v1, v2] W fun e W' => e = .returned (.bool true) ∧ Below W.heap.size W W' := by
  obtain ⟨a, b, c, d, rfl, _⟩ := arg_shape a0
  obtain ⟨A1, c1, l1, rfl, hc1, hC1, _, hw1⟩ := arg_ints a1
  obtain ⟨A2, c2, l2, rfl, hc2, hC2, _, hw2⟩ := arg_ints a2
  obtain ⟨k, hk⟩ := tiled_f a b c d l1 l2 (fun x hx => i64_wf (hw1 x hx)) (fun x hx => i64_wf (hw2 x hx))
  exact dailieslaw06_PlaneTiled.calls k a b c d A1 c1 l1 A2 c2 l2 true W hC1 hc1 hC2 hc2 hk
end Go.Proofs.Ytdoikehkibefpaa
