-- Laid by a program of this session (wip/tools/prx.py), over the kit's printer of walks; Lean checks it.
import Derived.Test.YtdoikehkibefpaaPPax0
import Derived.Test.YtdoikehkibefpaaPPax2
import Derived.Test.YtdoikehkibefpaaPPax5
import Derived.Test.YtdoikehkibefpaaPPax6
namespace Go.Proofs.Ytdoikehkibefpaa.PPa
open Go.RowKit Go.Proofs.YtdoikehkibefpaaW.PrintWords Go.Proofs.YtdoikehkibefpaaW.PrintLast Go.Proofs.YtdoikehkibefpaaW.PrintMore
attribute [local go_sem] max2_int min2_int max_two min_two max_three min_three max_four min_four   -- for this text's walks alone
set_option linter.unusedVariables false
set_option linter.unusedSimpArgs false

/-! ### dailieslaw06_PlaneTiled: function 8 -/
mutual
def dailieslaw06_PlaneTiled.j0 : Nat → List Int → List Int → Bool → Int → Bool → Int → Int → Int → Bool → Option (Bool)
  | 0, _, _, _, _, _, _, _, _, _ => none
  | k + 1, x1, x2, x7, x8, x36, x199000, x199001, x199002, x199003 => if x36 = true then (some x7) else (dailieslaw06_PlaneTiled.l0 k x1 x2 x8 0 x199000 x199001 x199002 x199003)
def dailieslaw06_PlaneTiled.l0 : Nat → List Int → List Int → Int → Int → Int → Int → Int → Bool → Option (Bool)
  | 0, _, _, _, _, _, _, _, _ => none
  | k + 1, x1, x2, x8, x10, x199000, x199001, x199002, x199003 => if x10 < 4 then ((plane_Size.f k x199000 x199001 x199002 x199003 x10).bind fun bt202 => (if bt202.2.2 = 0 then (if bt202.1 < 1 then (dailieslaw06_PlaneTiled.j2 k x1 x2 x8 x10 bt202.1 bt202.2.1 true x199000 x199001 x199002 x199003) else (if bt202.2.1 < 1 then (dailieslaw06_PlaneTiled.j2 k x1 x2 x8 x10 bt202.1 bt202.2.1 true x199000 x199001 x199002 x199003) else (if bt202.1 > x8 then (dailieslaw06_PlaneTiled.j2 k x1 x2 x8 x10 bt202.1 bt202.2.1 true x199000 x199001 x199002 x199003) else (if bt202.2.1 > x8 then (dailieslaw06_PlaneTiled.j2 k x1 x2 x8 x10 bt202.1 bt202.2.1 true x199000 x199001 x199002 x199003) else (dailieslaw06_PlaneTiled.j2 k x1 x2 x8 x10 bt202.1 bt202.2.1 (decide ((wrap64 (bt202.1 * bt202.2.1)) > x8)) x199000 x199001 x199002 x199003))))) else (if x10 < 3 then (some false) else (if x199003 = true then (some false) else (dailieslaw06_PlaneTiled.l0 k x1 x2 x8 (wrap64 (x10 + 1)) x199000 x199001 x199002 x199003))))) else (some true)
def dailieslaw06_PlaneTiled.j2 : Nat → List Int → List Int → Int → Int → Int → Int → Bool → Int → Int → Int → Bool → Option (Bool)
  | 0, _, _, _, _, _, _, _, _, _, _, _ => none
  | k + 1, x1, x2, x8, x10, x11, x12, x79, x199000, x199001, x199002, x199003 => if x79 = true then (some false) else (if 0 ≤ (wrap64 (x11 * x12)) then (if (wrap64 (x11 * x12) : Int).toNat ≤ 35184372088832 then (dailieslaw06_PlaneTiled.l1 k x1 x2 x8 x10 x11 x12 (List.replicate (wrap64 (x11 * x12) : Int).toNat 0) 0 0 x199000 x199001 x199002 x199003) else (none)) else (none))
def dailieslaw06_PlaneTiled.l1 : Nat → List Int → List Int → Int → Int → Int → Int → List Int → Int → Int → Int → Int → Int → Bool → Option (Bool)
  | 0, _, _, _, _, _, _, _, _, _, _, _, _, _ => none
  | k + 1, x1, x2, x8, x10, x11, x12, x14, x15, x16, x199000, x199001, x199002, x199003 => if x16 < x199001 then ((dailieslaw06_raw.f x2 x16 (wrap64 (x199001 - x16))).bind fun t208 => (dailieslaw06_PlaneTiled.l2 k x1 x2 x8 x10 x11 x12 x14 (wrap64 (x15 + 1)) x16 (wrap64 (1 + t208)) 0 x199000 x199001 x199002 x199003)) else (dailieslaw06_PlaneTiled.l4 k x1 x2 x8 x10 x14 0 x199000 x199001 x199002 x199003)
def dailieslaw06_PlaneTiled.l2 : Nat → List Int → List Int → Int → Int → Int → Int → List Int → Int → Int → Int → Int → Int → Int → Int → Bool → Option (Bool)
  | 0, _, _, _, _, _, _, _, _, _, _, _, _, _, _, _ => none
  | k + 1, x1, x2, x8, x10, x11, x12, x14, x15, x16, x18, x19, x199000, x199001, x199002, x199003 => if x19 < x199000 then ((dailieslaw06_raw.f x1 (wrap64 ((wrap64 (Int.tdiv x19 2)) + x15)) 9).bind fun t209 => (if (wrap64 (x19 + (wrap64 (2 * (wrap64 (1 + t209)))))) > x199000 then (dailieslaw06_PlaneTiled.j5 k x1 x2 x8 x10 x11 x12 x14 x15 x16 x18 x19 (wrap64 (x199000 - x19)) x199000 x199001 x199002 x199003) else (dailieslaw06_PlaneTiled.j5 k x1 x2 x8 x10 x11 x12 x14 x15 x16 x18 x19 (wrap64 (2 * (wrap64 (1 + t209)))) x199000 x199001 x199002 x199003))) else (dailieslaw06_PlaneTiled.l1 k x1 x2 x8 x10 x11 x12 x14 x15 (wrap64 (x16 + x18)) x199000 x199001 x199002 x199003)
def dailieslaw06_PlaneTiled.j5 : Nat → List Int → List Int → Int → Int → Int → Int → List Int → Int → Int → Int → Int → Int → Int → Int → Int → Bool → Option (Bool)
  | 0, _, _, _, _, _, _, _, _, _, _, _, _, _, _, _, _ => none
  | k + 1, x1, x2, x8, x10, x11, x12, x14, x15, x16, x18, x19, x20, x199000, x199001, x199002, x199003 => (plane_Half.f k x199000 x199001 x199002 x199003 x10 x19 x16 x20 x18).bind fun bt210 => (if bt210.2.2.2.2 = 0 then (if bt210.1 < 0 then (dailieslaw06_PlaneTiled.j6 k x1 x2 x8 x10 x11 x12 x14 x15 x16 x18 x19 x20 true x199000 x199001 x199002 x199003 bt210.1 bt210.2.1 bt210.2.2.1 bt210.2.2.2.1) else (if bt210.2.1 < 0 then (dailieslaw06_PlaneTiled.j6 k x1 x2 x8 x10 x11 x12 x14 x15 x16 x18 x19 x20 true x199000 x199001 x199002 x199003 bt210.1 bt210.2.1 bt210.2.2.1 bt210.2.2.2.1) else (if bt210.2.2.1 < 1 then (dailieslaw06_PlaneTiled.j6 k x1 x2 x8 x10 x11 x12 x14 x15 x16 x18 x19 x20 true x199000 x199001 x199002 x199003 bt210.1 bt210.2.1 bt210.2.2.1 bt210.2.2.2.1) else (if bt210.2.2.2.1 < 1 then (dailieslaw06_PlaneTiled.j6 k x1 x2 x8 x10 x11 x12 x14 x15 x16 x18 x19 x20 true x199000 x199001 x199002 x199003 bt210.1 bt210.2.1 bt210.2.2.1 bt210.2.2.2.1) else (if bt210.1 > x11 then (dailieslaw06_PlaneTiled.j6 k x1 x2 x8 x10 x11 x12 x14 x15 x16 x18 x19 x20 true x199000 x199001 x199002 x199003 bt210.1 bt210.2.1 bt210.2.2.1 bt210.2.2.2.1) else (if bt210.2.1 > x12 then (dailieslaw06_PlaneTiled.j6 k x1 x2 x8 x10 x11 x12 x14 x15 x16 x18 x19 x20 true x199000 x199001 x199002 x199003 bt210.1 bt210.2.1 bt210.2.2.1 bt210.2.2.2.1) else (if bt210.2.2.1 > (wrap64 (x11 - bt210.1)) then (dailieslaw06_PlaneTiled.j6 k x1 x2 x8 x10 x11 x12 x14 x15 x16 x18 x19 x20 true x199000 x199001 x199002 x199003 bt210.1 bt210.2.1 bt210.2.2.1 bt210.2.2.2.1) else (dailieslaw06_PlaneTiled.j6 k x1 x2 x8 x10 x11 x12 x14 x15 x16 x18 x19 x20 (decide (bt210.2.2.2.1 > (wrap64 (x12 - bt210.2.1)))) x199000 x199001 x199002 x199003 bt210.1 bt210.2.1 bt210.2.2.1 bt210.2.2.2.1)))))))) else (dailieslaw06_PlaneTiled.j6 k x1 x2 x8 x10 x11 x12 x14 x15 x16 x18 x19 x20 true x199000 x199001 x199002 x199003 bt210.1 bt210.2.1 bt210.2.2.1 bt210.2.2.2.1))
def dailieslaw06_PlaneTiled.j6 : Nat → List Int → List Int → Int → Int → Int → Int → List Int → Int → Int → Int → Int → Int → Bool → Int → Int → Int → Bool → Int → Int → Int → Int → Option (Bool)
  | 0, _, _, _, _, _, _, _, _, _, _, _, _, _, _, _, _, _, _, _, _, _ => none
  | k + 1, x1, x2, x8, x10, x11, x12, x14, x15, x16, x18, x19, x20, x183, x199000, x199001, x199002, x199003, x216000, x216001, x216002, x216003 => if x183 = true then (some false) else (dailieslaw06_PlaneTiled.l3 k x1 x2 x8 x10 x11 x12 x14 x15 x16 x18 x19 x20 0 x199000 x199001 x199002 x199003 x216000 x216001 x216002 x216003)
def dailieslaw06_PlaneTiled.l3 : Nat → List Int → List Int → Int → Int → Int → Int → List Int → Int → Int → Int → Int → Int → Int → Int → Int → Int → Bool → Int → Int → Int → Int → Option (Bool)
  | 0, _, _, _, _, _, _, _, _, _, _, _, _, _, _, _, _, _, _, _, _, _ => none
  | k + 1, x1, x2, x8, x10, x11, x12, x14, x15, x16, x18, x19, x20, x23, x199000, x199001, x199002, x199003, x216000, x216001, x216002, x216003 => if x23 < (wrap64 (x216002 * x216003)) then (if x216002 = 0 then (none) else (if 0 ≤ (wrap64 ((wrap64 ((wrap64 ((wrap64 (x216001 + (wrap64 (Int.tdiv x23 x216002)))) * x11)) + x216000)) + (Int.tmod x23 x216002))) then (if (wrap64 ((wrap64 ((wrap64 ((wrap64 (x216001 + (wrap64 (Int.tdiv x23 x216002)))) * x11)) + x216000)) + (Int.tmod x23 x216002))) < (x14.length : Int) then (dailieslaw06_PlaneTiled.l3 k x1 x2 x8 x10 x11 x12 (x14.set ((wrap64 ((wrap64 ((wrap64 ((wrap64 (x216001 + (wrap64 (Int.tdiv x23 x216002)))) * x11)) + x216000)) + (Int.tmod x23 x216002))) : Int).toNat (wrap64 ((rd x14 (wrap64 ((wrap64 ((wrap64 ((wrap64 (x216001 + (wrap64 (Int.tdiv x23 x216002)))) * x11)) + x216000)) + (Int.tmod x23 x216002)))) + 1))) x15 x16 x18 x19 x20 (wrap64 (x23 + 1)) x199000 x199001 x199002 x199003 x216000 x216001 x216002 x216003) else (none)) else (none))) else (dailieslaw06_PlaneTiled.l2 k x1 x2 x8 x10 x11 x12 x14 x15 x16 x18 (wrap64 (x19 + x20)) x199000 x199001 x199002 x199003)
def dailieslaw06_PlaneTiled.l4 : Nat → List Int → List Int → Int → Int → List Int → Int → Int → Int → Int → Bool → Option (Bool)
  | 0, _, _, _, _, _, _, _, _, _, _ => none
  | k + 1, x1, x2, x8, x10, x14, x24, x199000, x199001, x199002, x199003 => if x24 < (x14.length : Int) then (if 0 ≤ x24 then (if (rd x14 x24) = 1 then (dailieslaw06_PlaneTiled.l4 k x1 x2 x8 x10 x14 (wrap64 (x24 + 1)) x199000 x199001 x199002 x199003) else (some false)) else (none)) else (dailieslaw06_PlaneTiled.l0 k x1 x2 x8 (wrap64 (x10 + 1)) x199000 x199001 x199002 x199003)
end
def dailieslaw06_PlaneTiled.f (k : Nat) (a0_0 : Int) (a0_1 : Int) (a0_2 : Int) (a0_3 : Bool) (l1 : List Int) (l2 : List Int) : Option (Bool) := (dailieslaw06_shown.f k).bind fun t199 => ((dailiesref06_Samples.f k a0_0 a0_1 a0_2 a0_3).bind fun bt200 => (if t199 = true then (dailieslaw06_PlaneTiled.j0 k l1 l2 t199 bt200.1 (bt200.2 != 0) a0_0 a0_1 a0_2 a0_3) else (dailieslaw06_PlaneTiled.j0 k l1 l2 t199 bt200.1 true a0_0 a0_1 a0_2 a0_3)))
theorem dailieslaw06_PlaneTiled.mono_l : ∀ k, (∀ y0 y1 y2 y3 y4 y5 y6 y7 y8, LeO (dailieslaw06_PlaneTiled.j0 k y0 y1 y2 y3 y4 y5 y6 y7 y8) (dailieslaw06_PlaneTiled.j0 (k + 1) y0 y1 y2 y3 y4 y5 y6 y7 y8)) ∧ (∀ y0 y1 y2 y3 y4 y5 y6 y7, LeO (dailieslaw06_PlaneTiled.l0 k y0 y1 y2 y3 y4 y5 y6 y7) (dailieslaw06_PlaneTiled.l0 (k + 1) y0 y1 y2 y3 y4 y5 y6 y7)) ∧ (∀ y0 y1 y2 y3 y4 y5 y6 y7 y8 y9 y10, LeO (dailieslaw06_PlaneTiled.j2 k y0 y1 y2 y3 y4 y5 y6 y7 y8 y9 y10) (dailieslaw06_PlaneTiled.j2 (k + 1) y0 y1 y2 y3 y4 y5 y6 y7 y8 y9 y10)) ∧ (∀ y0 y1 y2 y3 y4 y5 y6 y7 y8 y9 y10 y11 y12, LeO (dailieslaw06_PlaneTiled.l1 k y0 y1 y2 y3 y4 y5 y6 y7 y8 y9 y10 y11 y12) (dailieslaw06_PlaneTiled.l1 (k + 1) y0 y1 y2 y3 y4 y5 y6 y7 y8 y9 y10 y11 y12)) ∧ (∀ y0 y1 y2 y3 y4 y5 y6 y7 y8 y9 y10 y11 y12 y13 y14, LeO (dailieslaw06_PlaneTiled.l2 k y0 y1 y2 y3 y4 y5 y6 y7 y8 y9 y10 y11 y12 y13 y14) (dailieslaw06_PlaneTiled.l2 (k + 1) y0 y1 y2 y3 y4 y5 y6 y7 y8 y9 y10 y11 y12 y13 y14)) ∧ (∀ y0 y1 y2 y3 y4 y5 y6 y7 y8 y9 y10 y11 y12 y13 y14 y15, LeO (dailieslaw06_PlaneTiled.j5 k y0 y1 y2 y3 y4 y5 y6 y7 y8 y9 y10 y11 y12 y13 y14 y15) (dailieslaw06_PlaneTiled.j5 (k + 1) y0 y1 y2 y3 y4 y5 y6 y7 y8 y9 y10 y11 y12 y13 y14 y15)) ∧ (∀ y0 y1 y2 y3 y4 y5 y6 y7 y8 y9 y10 y11 y12 y13 y14 y15 y16 y17 y18 y19 y20, LeO (dailieslaw06_PlaneTiled.j6 k y0 y1 y2 y3 y4 y5 y6 y7 y8 y9 y10 y11 y12 y13 y14 y15 y16 y17 y18 y19 y20) (dailieslaw06_PlaneTiled.j6 (k + 1) y0 y1 y2 y3 y4 y5 y6 y7 y8 y9 y10 y11 y12 y13 y14 y15 y16 y17 y18 y19 y20)) ∧ (∀ y0 y1 y2 y3 y4 y5 y6 y7 y8 y9 y10 y11 y12 y13 y14 y15 y16 y17 y18 y19 y20, LeO (dailieslaw06_PlaneTiled.l3 k y0 y1 y2 y3 y4 y5 y6 y7 y8 y9 y10 y11 y12 y13 y14 y15 y16 y17 y18 y19 y20) (dailieslaw06_PlaneTiled.l3 (k + 1) y0 y1 y2 y3 y4 y5 y6 y7 y8 y9 y10 y11 y12 y13 y14 y15 y16 y17 y18 y19 y20)) ∧ (∀ y0 y1 y2 y3 y4 y5 y6 y7 y8 y9, LeO (dailieslaw06_PlaneTiled.l4 k y0 y1 y2 y3 y4 y5 y6 y7 y8 y9) (dailieslaw06_PlaneTiled.l4 (k + 1) y0 y1 y2 y3 y4 y5 y6 y7 y8 y9))
  | 0 => ⟨fun _ _ _ _ _ _ _ _ _ r h => by simp [dailieslaw06_PlaneTiled.j0] at h, fun _ _ _ _ _ _ _ _ r h => by simp [dailieslaw06_PlaneTiled.l0] at h, fun _ _ _ _ _ _ _ _ _ _ _ r h => by simp [dailieslaw06_PlaneTiled.j2] at h, fun _ _ _ _ _ _ _ _ _ _ _ _ _ r h => by simp [dailieslaw06_PlaneTiled.l1] at h, fun _ _ _ _ _ _ _ _ _ _ _ _ _ _ _ r h => by simp [dailieslaw06_PlaneTiled.l2] at h, fun _ _ _ _ _ _ _ _ _ _ _ _ _ _ _ _ r h => by simp [dailieslaw06_PlaneTiled.j5] at h, fun _ _ _ _ _ _ _ _ _ _ _ _ _ _ _ _ _ _ _ _ _ r h => by simp [dailieslaw06_PlaneTiled.j6] at h, fun _ _ _ _ _ _ _ _ _ _ _ _ _ _ _ _ _ _ _ _ _ r h => by simp [dailieslaw06_PlaneTiled.l3] at h, fun _ _ _ _ _ _ _ _ _ _ r h => by simp [dailieslaw06_PlaneTiled.l4] at h⟩
  | k + 1 => by
    obtain ⟨ih0, ih1, ih2, ih3, ih4, ih5, ih6, ih7, ih8⟩ := dailieslaw06_PlaneTiled.mono_l k
    refine ⟨?_, ?_, ?_, ?_, ?_, ?_, ?_, ?_, ?_⟩
    · intro y0 y1 y2 y3 y4 y5 y6 y7 y8
      unfold dailieslaw06_PlaneTiled.j0
      repeat' first
      | (with_reducible exact ih0 _ _ _ _ _ _ _ _ _)
      | (with_reducible exact ih1 _ _ _ _ _ _ _ _)
      | (with_reducible exact ih2 _ _ _ _ _ _ _ _ _ _ _)
      | (with_reducible exact ih3 _ _ _ _ _ _ _ _ _ _ _ _ _)
      | (with_reducible exact ih4 _ _ _ _ _ _ _ _ _ _ _ _ _ _ _)
      | (with_reducible exact ih5 _ _ _ _ _ _ _ _ _ _ _ _ _ _ _ _)
      | (with_reducible exact ih6 _ _ _ _ _ _ _ _ _ _ _ _ _ _ _ _ _ _ _ _ _)
      | (with_reducible exact ih7 _ _ _ _ _ _ _ _ _ _ _ _ _ _ _ _ _ _ _ _ _)
      | (with_reducible exact ih8 _ _ _ _ _ _ _ _ _ _)
      | (with_reducible exact dailieslaw06_shown.mono _)
      | (with_reducible exact dailiesref06_Samples.mono _ _ _ _ _)
      | (with_reducible exact plane_Half.mono _ _ _ _ _ _ _ _ _ _)
      | (with_reducible exact plane_Size.mono _ _ _ _ _ _)
      | (with_reducible exact LeO.refl _)
      | (with_reducible exact LeO.none _)
      | (with_reducible refine LeO.ite ?_ ?_)
      | (with_reducible refine LeO.bind ?_ (fun _ => ?_))
      | exact ih0 _ _ _ _ _ _ _ _ _
      | exact ih1 _ _ _ _ _ _ _ _
      | exact ih2 _ _ _ _ _ _ _ _ _ _ _
      | exact ih3 _ _ _ _ _ _ _ _ _ _ _ _ _
      | exact ih4 _ _ _ _ _ _ _ _ _ _ _ _ _ _ _
      | exact ih5 _ _ _ _ _ _ _ _ _ _ _ _ _ _ _ _
      | exact ih6 _ _ _ _ _ _ _ _ _ _ _ _ _ _ _ _ _ _ _ _ _
      | exact ih7 _ _ _ _ _ _ _ _ _ _ _ _ _ _ _ _ _ _ _ _ _
      | exact ih8 _ _ _ _ _ _ _ _ _ _
      | exact dailieslaw06_shown.mono _
      | exact dailiesref06_Samples.mono _ _ _ _ _
      | exact plane_Half.mono _ _ _ _ _ _ _ _ _ _
      | exact plane_Size.mono _ _ _ _ _ _
      | exact LeO.none _
      | refine LeO.ite ?_ ?_
      | refine LeO.bind ?_ (fun _ => ?_)
    · intro y0 y1 y2 y3 y4 y5 y6 y7
      unfold dailieslaw06_PlaneTiled.l0
      repeat' first
      | (with_reducible exact ih0 _ _ _ _ _ _ _ _ _)
      | (with_reducible exact ih1 _ _ _ _ _ _ _ _)
      | (with_reducible exact ih2 _ _ _ _ _ _ _ _ _ _ _)
      | (with_reducible exact ih3 _ _ _ _ _ _ _ _ _ _ _ _ _)
      | (with_reducible exact ih4 _ _ _ _ _ _ _ _ _ _ _ _ _ _ _)
      | (with_reducible exact ih5 _ _ _ _ _ _ _ _ _ _ _ _ _ _ _ _)
      | (with_reducible exact ih6 _ _ _ _ _ _ _ _ _ _ _ _ _ _ _ _ _ _ _ _ _)
      | (with_reducible exact ih7 _ _ _ _ _ _ _ _ _ _ _ _ _ _ _ _ _ _ _ _ _)
      | (with_reducible exact ih8 _ _ _ _ _ _ _ _ _ _)
      | (with_reducible exact dailieslaw06_shown.mono _)
      | (with_reducible exact dailiesref06_Samples.mono _ _ _ _ _)
      | (with_reducible exact plane_Half.mono _ _ _ _ _ _ _ _ _ _)
      | (with_reducible exact plane_Size.mono _ _ _ _ _ _)
      | (with_reducible exact LeO.refl _)
      | (with_reducible exact LeO.none _)
      | (with_reducible refine LeO.ite ?_ ?_)
      | (with_reducible refine LeO.bind ?_ (fun _ => ?_))
      | exact ih0 _ _ _ _ _ _ _ _ _
      | exact ih1 _ _ _ _ _ _ _ _
      | exact ih2 _ _ _ _ _ _ _ _ _ _ _
      | exact ih3 _ _ _ _ _ _ _ _ _ _ _ _ _
      | exact ih4 _ _ _ _ _ _ _ _ _ _ _ _ _ _ _
      | exact ih5 _ _ _ _ _ _ _ _ _ _ _ _ _ _ _ _
      | exact ih6 _ _ _ _ _ _ _ _ _ _ _ _ _ _ _ _ _ _ _ _ _
      | exact ih7 _ _ _ _ _ _ _ _ _ _ _ _ _ _ _ _ _ _ _ _ _
      | exact ih8 _ _ _ _ _ _ _ _ _ _
      | exact dailieslaw06_shown.mono _
      | exact dailiesref06_Samples.mono _ _ _ _ _
      | exact plane_Half.mono _ _ _ _ _ _ _ _ _ _
      | exact plane_Size.mono _ _ _ _ _ _
      | exact LeO.none _
      | refine LeO.ite ?_ ?_
      | refine LeO.bind ?_ (fun _ => ?_)
    · intro y0 y1 y2 y3 y4 y5 y6 y7 y8 y9 y10
      unfold dailieslaw06_PlaneTiled.j2
      repeat' first
      | (with_reducible exact ih0 _ _ _ _ _ _ _ _ _)
      | (with_reducible exact ih1 _ _ _ _ _ _ _ _)
      | (with_reducible exact ih2 _ _ _ _ _ _ _ _ _ _ _)
      | (with_reducible exact ih3 _ _ _ _ _ _ _ _ _ _ _ _ _)
      | (with_reducible exact ih4 _ _ _ _ _ _ _ _ _ _ _ _ _ _ _)
      | (with_reducible exact ih5 _ _ _ _ _ _ _ _ _ _ _ _ _ _ _ _)
      | (with_reducible exact ih6 _ _ _ _ _ _ _ _ _ _ _ _ _ _ _ _ _ _ _ _ _)
      | (with_reducible exact ih7 _ _ _ _ _ _ _ _ _ _ _ _ _ _ _ _ _ _ _ _ _)
      | (with_reducible exact ih8 _ _ _ _ _ _ _ _ _ _)
      | (with_reducible exact dailieslaw06_shown.mono _)
      | (with_reducible exact dailiesref06_Samples.mono _ _ _ _ _)
      | (with_reducible exact plane_Half.mono _ _ _ _ _ _ _ _ _ _)
      | (with_reducible exact plane_Size.mono _ _ _ _ _ _)
      | (with_reducible exact LeO.refl _)
      | (with_reducible exact LeO.none _)
      | (with_reducible refine LeO.ite ?_ ?_)
      | (with_reducible refine LeO.bind ?_ (fun _ => ?_))
      | exact ih0 _ _ _ _ _ _ _ _ _
      | exact ih1 _ _ _ _ _ _ _ _
      | exact ih2 _ _ _ _ _ _ _ _ _ _ _
      | exact ih3 _ _ _ _ _ _ _ _ _ _ _ _ _
      | exact ih4 _ _ _ _ _ _ _ _ _ _ _ _ _ _ _
      | exact ih5 _ _ _ _ _ _ _ _ _ _ _ _ _ _ _ _
      | exact ih6 _ _ _ _ _ _ _ _ _ _ _ _ _ _ _ _ _ _ _ _ _
      | exact ih7 _ _ _ _ _ _ _ _ _ _ _ _ _ _ _ _ _ _ _ _ _
      | exact ih8 _ _ _ _ _ _ _ _ _ _
      | exact dailieslaw06_shown.mono _
      | exact dailiesref06_Samples.mono _ _ _ _ _
      | exact plane_Half.mono _ _ _ _ _ _ _ _ _ _
      | exact plane_Size.mono _ _ _ _ _ _
      | exact LeO.none _
      | refine LeO.ite ?_ ?_
      | refine LeO.bind ?_ (fun _ => ?_)
    · intro y0 y1 y2 y3 y4 y5 y6 y7 y8 y9 y10 y11 y12
      unfold dailieslaw06_PlaneTiled.l1
      repeat' first
      | (with_reducible exact ih0 _ _ _ _ _ _ _ _ _)
      | (with_reducible exact ih1 _ _ _ _ _ _ _ _)
      | (with_reducible exact ih2 _ _ _ _ _ _ _ _ _ _ _)
      | (with_reducible exact ih3 _ _ _ _ _ _ _ _ _ _ _ _ _)
      | (with_reducible exact ih4 _ _ _ _ _ _ _ _ _ _ _ _ _ _ _)
      | (with_reducible exact ih5 _ _ _ _ _ _ _ _ _ _ _ _ _ _ _ _)
      | (with_reducible exact ih6 _ _ _ _ _ _ _ _ _ _ _ _ _ _ _ _ _ _ _ _ _)
      | (with_reducible exact ih7 _ _ _ _ _ _ _ _ _ _ _ _ _ _ _ _ _ _ _ _ _)
      | (with_reducible exact ih8 _ _ _ _ _ _ _ _ _ _)
      | (with_reducible exact dailieslaw06_shown.mono _)
      | (with_reducible exact dailiesref06_Samples.mono _ _ _ _ _)
      | (with_reducible exact plane_Half.mono _ _ _ _ _ _ _ _ _ _)
      | (with_reducible exact plane_Size.mono _ _ _ _ _ _)
      | (with_reducible exact LeO.refl _)
      | (with_reducible exact LeO.none _)
      | (with_reducible refine LeO.ite ?_ ?_)
      | (with_reducible refine LeO.bind ?_ (fun _ => ?_))
      | exact ih0 _ _ _ _ _ _ _ _ _
      | exact ih1 _ _ _ _ _ _ _ _
      | exact ih2 _ _ _ _ _ _ _ _ _ _ _
      | exact ih3 _ _ _ _ _ _ _ _ _ _ _ _ _
      | exact ih4 _ _ _ _ _ _ _ _ _ _ _ _ _ _ _
      | exact ih5 _ _ _ _ _ _ _ _ _ _ _ _ _ _ _ _
      | exact ih6 _ _ _ _ _ _ _ _ _ _ _ _ _ _ _ _ _ _ _ _ _
      | exact ih7 _ _ _ _ _ _ _ _ _ _ _ _ _ _ _ _ _ _ _ _ _
      | exact ih8 _ _ _ _ _ _ _ _ _ _
      | exact dailieslaw06_shown.mono _
      | exact dailiesref06_Samples.mono _ _ _ _ _
      | exact plane_Half.mono _ _ _ _ _ _ _ _ _ _
      | exact plane_Size.mono _ _ _ _ _ _
      | exact LeO.none _
      | refine LeO.ite ?_ ?_
      | refine LeO.bind ?_ (fun _ => ?_)
    · intro y0 y1 y2 y3 y4 y5 y6 y7 y8 y9 y10 y11 y12 y13 y14
      unfold dailieslaw06_PlaneTiled.l2
      repeat' first
      | (with_reducible exact ih0 _ _ _ _ _ _ _ _ _)
      | (with_reducible exact ih1 _ _ _ _ _ _ _ _)
      | (with_reducible exact ih2 _ _ _ _ _ _ _ _ _ _ _)
      | (with_reducible exact ih3 _ _ _ _ _ _ _ _ _ _ _ _ _)
      | (with_reducible exact ih4 _ _ _ _ _ _ _ _ _ _ _ _ _ _ _)
      | (with_reducible exact ih5 _ _ _ _ _ _ _ _ _ _ _ _ _ _ _ _)
      | (with_reducible exact ih6 _ _ _ _ _ _ _ _ _ _ _ _ _ _ _ _ _ _ _ _ _)
      | (with_reducible exact ih7 _ _ _ _ _ _ _ _ _ _ _ _ _ _ _ _ _ _ _ _ _)
      | (with_reducible exact ih8 _ _ _ _ _ _ _ _ _ _)
      | (with_reducible exact dailieslaw06_shown.mono _)
      | (with_reducible exact dailiesref06_Samples.mono _ _ _ _ _)
      | (with_reducible exact plane_Half.mono _ _ _ _ _ _ _ _ _ _)
      | (with_reducible exact plane_Size.mono _ _ _ _ _ _)
      | (with_reducible exact LeO.refl _)
      | (with_reducible exact LeO.none _)
      | (with_reducible refine LeO.ite ?_ ?_)
      | (with_reducible refine LeO.bind ?_ (fun _ => ?_))
      | exact ih0 _ _ _ _ _ _ _ _ _
      | exact ih1 _ _ _ _ _ _ _ _
      | exact ih2 _ _ _ _ _ _ _ _ _ _ _
      | exact ih3 _ _ _ _ _ _ _ _ _ _ _ _ _
      | exact ih4 _ _ _ _ _ _ _ _ _ _ _ _ _ _ _
      | exact ih5 _ _ _ _ _ _ _ _ _ _ _ _ _ _ _ _
      | exact ih6 _ _ _ _ _ _ _ _ _ _ _ _ _ _ _ _ _ _ _ _ _
      | exact ih7 _ _ _ _ _ _ _ _ _ _ _ _ _ _ _ _ _ _ _ _ _
      | exact ih8 _ _ _ _ _ _ _ _ _ _
      | exact dailieslaw06_shown.mono _
      | exact dailiesref06_Samples.mono _ _ _ _ _
      | exact plane_Half.mono _ _ _ _ _ _ _ _ _ _
      | exact plane_Size.mono _ _ _ _ _ _
      | exact LeO.none _
      | refine LeO.ite ?_ ?_
      | refine LeO.bind ?_ (fun _ => ?_)
    · intro y0 y1 y2 y3 y4 y5 y6 y7 y8 y9 y10 y11 y12 y13 y14 y15
      unfold dailieslaw06_PlaneTiled.j5
      repeat' first
      | (with_reducible exact ih0 _ _ _ _ _ _ _ _ _)
      | (with_reducible exact ih1 _ _ _ _ _ _ _ _)
      | (with_reducible exact ih2 _ _ _ _ _ _ _ _ _ _ _)
      | (with_reducible exact ih3 _ _ _ _ _ _ _ _ _ _ _ _ _)
      | (with_reducible exact ih4 _ _ _ _ _ _ _ _ _ _ _ _ _ _ _)
      | (with_reducible exact ih5 _ _ _ _ _ _ _ _ _ _ _ _ _ _ _ _)
      | (with_reducible exact ih6 _ _ _ _ _ _ _ _ _ _ _ _ _ _ _ _ _ _ _ _ _)
      | (with_reducible exact ih7 _ _ _ _ _ _ _ _ _ _ _ _ _ _ _ _ _ _ _ _ _)
      | (with_reducible exact ih8 _ _ _ _ _ _ _ _ _ _)
      | (with_reducible exact dailieslaw06_shown.mono _)
      | (with_reducible exact dailiesref06_Samples.mono _ _ _ _ _)
      | (with_reducible exact plane_Half.mono _ _ _ _ _ _ _ _ _ _)
      | (with_reducible exact plane_Size.mono _ _ _ _ _ _)
      | (with_reducible exact LeO.refl _)
      | (with_reducible exact LeO.none _)
      | (with_reducible refine LeO.ite ?_ ?_)
      | (with_reducible refine LeO.bind ?_ (fun _ => ?_))
      | exact ih0 _ _ _ _ _ _ _ _ _
      | exact ih1 _ _ _ _ _ _ _ _
      | exact ih2 _ _ _ _ _ _ _ _ _ _ _
      | exact ih3 _ _ _ _ _ _ _ _ _ _ _ _ _
      | exact ih4 _ _ _ _ _ _ _ _ _ _ _ _ _ _ _
      | exact ih5 _ _ _ _ _ _ _ _ _ _ _ _ _ _ _ _
      | exact ih6 _ _ _ _ _ _ _ _ _ _ _ _ _ _ _ _ _ _ _ _ _
      | exact ih7 _ _ _ _ _ _ _ _ _ _ _ _ _ _ _ _ _ _ _ _ _
      | exact ih8 _ _ _ _ _ _ _ _ _ _
      | exact dailieslaw06_shown.mono _
      | exact dailiesref06_Samples.mono _ _ _ _ _
      | exact plane_Half.mono _ _ _ _ _ _ _ _ _ _
      | exact plane_Size.mono _ _ _ _ _ _
      | exact LeO.none _
      | refine LeO.ite ?_ ?_
      | refine LeO.bind ?_ (fun _ => ?_)
    · intro y0 y1 y2 y3 y4 y5 y6 y7 y8 y9 y10 y11 y12 y13 y14 y15 y16 y17 y18 y19 y20
      unfold dailieslaw06_PlaneTiled.j6
      repeat' first
      | (with_reducible exact ih0 _ _ _ _ _ _ _ _ _)
      | (with_reducible exact ih1 _ _ _ _ _ _ _ _)
      | (with_reducible exact ih2 _ _ _ _ _ _ _ _ _ _ _)
      | (with_reducible exact ih3 _ _ _ _ _ _ _ _ _ _ _ _ _)
      | (with_reducible exact ih4 _ _ _ _ _ _ _ _ _ _ _ _ _ _ _)
      | (with_reducible exact ih5 _ _ _ _ _ _ _ _ _ _ _ _ _ _ _ _)
      | (with_reducible exact ih6 _ _ _ _ _ _ _ _ _ _ _ _ _ _ _ _ _ _ _ _ _)
      | (with_reducible exact ih7 _ _ _ _ _ _ _ _ _ _ _ _ _ _ _ _ _ _ _ _ _)
      | (with_reducible exact ih8 _ _ _ _ _ _ _ _ _ _)
      | (with_reducible exact dailieslaw06_shown.mono _)
      | (with_reducible exact dailiesref06_Samples.mono _ _ _ _ _)
      | (with_reducible exact plane_Half.mono _ _ _ _ _ _ _ _ _ _)
      | (with_reducible exact plane_Size.mono _ _ _ _ _ _)
      | (with_reducible exact LeO.refl _)
      | (with_reducible exact LeO.none _)
      | (with_reducible refine LeO.ite ?_ ?_)
      | (with_reducible refine LeO.bind ?_ (fun _ => ?_))
      | exact ih0 _ _ _ _ _ _ _ _ _
      | exact ih1 _ _ _ _ _ _ _ _
      | exact ih2 _ _ _ _ _ _ _ _ _ _ _
      | exact ih3 _ _ _ _ _ _ _ _ _ _ _ _ _
      | exact ih4 _ _ _ _ _ _ _ _ _ _ _ _ _ _ _
      | exact ih5 _ _ _ _ _ _ _ _ _ _ _ _ _ _ _ _
      | exact ih6 _ _ _ _ _ _ _ _ _ _ _ _ _ _ _ _ _ _ _ _ _
      | exact ih7 _ _ _ _ _ _ _ _ _ _ _ _ _ _ _ _ _ _ _ _ _
      | exact ih8 _ _ _ _ _ _ _ _ _ _
      | exact dailieslaw06_shown.mono _
      | exact dailiesref06_Samples.mono _ _ _ _ _
      | exact plane_Half.mono _ _ _ _ _ _ _ _ _ _
      | exact plane_Size.mono _ _ _ _ _ _
      | exact LeO.none _
      | refine LeO.ite ?_ ?_
      | refine LeO.bind ?_ (fun _ => ?_)
    · intro y0 y1 y2 y3 y4 y5 y6 y7 y8 y9 y10 y11 y12 y13 y14 y15 y16 y17 y18 y19 y20
      unfold dailieslaw06_PlaneTiled.l3
      repeat' first
      | (with_reducible exact ih0 _ _ _ _ _ _ _ _ _)
      | (with_reducible exact ih1 _ _ _ _ _ _ _ _)
      | (with_reducible exact ih2 _ _ _ _ _ _ _ _ _ _ _)
      | (with_reducible exact ih3 _ _ _ _ _ _ _ _ _ _ _ _ _)
      | (with_reducible exact ih4 _ _ _ _ _ _ _ _ _ _ _ _ _ _ _)
      | (with_reducible exact ih5 _ _ _ _ _ _ _ _ _ _ _ _ _ _ _ _)
      | (with_reducible exact ih6 _ _ _ _ _ _ _ _ _ _ _ _ _ _ _ _ _ _ _ _ _)
      | (with_reducible exact ih7 _ _ _ _ _ _ _ _ _ _ _ _ _ _ _ _ _ _ _ _ _)
      | (with_reducible exact ih8 _ _ _ _ _ _ _ _ _ _)
      | (with_reducible exact dailieslaw06_shown.mono _)
      | (with_reducible exact dailiesref06_Samples.mono _ _ _ _ _)
      | (with_reducible exact plane_Half.mono _ _ _ _ _ _ _ _ _ _)
      | (with_reducible exact plane_Size.mono _ _ _ _ _ _)
      | (with_reducible exact LeO.refl _)
      | (with_reducible exact LeO.none _)
      | (with_reducible refine LeO.ite ?_ ?_)
      | (with_reducible refine LeO.bind ?_ (fun _ => ?_))
      | exact ih0 _ _ _ _ _ _ _ _ _
      | exact ih1 _ _ _ _ _ _ _ _
      | exact ih2 _ _ _ _ _ _ _ _ _ _ _
      | exact ih3 _ _ _ _ _ _ _ _ _ _ _ _ _
      | exact ih4 _ _ _ _ _ _ _ _ _ _ _ _ _ _ _
      | exact ih5 _ _ _ _ _ _ _ _ _ _ _ _ _ _ _ _
      | exact ih6 _ _ _ _ _ _ _ _ _ _ _ _ _ _ _ _ _ _ _ _ _
      | exact ih7 _ _ _ _ _ _ _ _ _ _ _ _ _ _ _ _ _ _ _ _ _
      | exact ih8 _ _ _ _ _ _ _ _ _ _
      | exact dailieslaw06_shown.mono _
      | exact dailiesref06_Samples.mono _ _ _ _ _
      | exact plane_Half.mono _ _ _ _ _ _ _ _ _ _
      | exact plane_Size.mono _ _ _ _ _ _
      | exact LeO.none _
      | refine LeO.ite ?_ ?_
      | refine LeO.bind ?_ (fun _ => ?_)
    · intro y0 y1 y2 y3 y4 y5 y6 y7 y8 y9
      unfold dailieslaw06_PlaneTiled.l4
      repeat' first
      | (with_reducible exact ih0 _ _ _ _ _ _ _ _ _)
      | (with_reducible exact ih1 _ _ _ _ _ _ _ _)
      | (with_reducible exact ih2 _ _ _ _ _ _ _ _ _ _ _)
      | (with_reducible exact ih3 _ _ _ _ _ _ _ _ _ _ _ _ _)
      | (with_reducible exact ih4 _ _ _ _ _ _ _ _ _ _ _ _ _ _ _)
      | (with_reducible exact ih5 _ _ _ _ _ _ _ _ _ _ _ _ _ _ _ _)
      | (with_reducible exact ih6 _ _ _ _ _ _ _ _ _ _ _ _ _ _ _ _ _ _ _ _ _)
      | (with_reducible exact ih7 _ _ _ _ _ _ _ _ _ _ _ _ _ _ _ _ _ _ _ _ _)
      | (with_reducible exact ih8 _ _ _ _ _ _ _ _ _ _)
      | (with_reducible exact dailieslaw06_shown.mono _)
      | (with_reducible exact dailiesref06_Samples.mono _ _ _ _ _)
      | (with_reducible exact plane_Half.mono _ _ _ _ _ _ _ _ _ _)
      | (with_reducible exact plane_Size.mono _ _ _ _ _ _)
      | (with_reducible exact LeO.refl _)
      | (with_reducible exact LeO.none _)
      | (with_reducible refine LeO.ite ?_ ?_)
      | (with_reducible refine LeO.bind ?_ (fun _ => ?_))
      | exact ih0 _ _ _ _ _ _ _ _ _
      | exact ih1 _ _ _ _ _ _ _ _
      | exact ih2 _ _ _ _ _ _ _ _ _ _ _
      | exact ih3 _ _ _ _ _ _ _ _ _ _ _ _ _
      | exact ih4 _ _ _ _ _ _ _ _ _ _ _ _ _ _ _
      | exact ih5 _ _ _ _ _ _ _ _ _ _ _ _ _ _ _ _
      | exact ih6 _ _ _ _ _ _ _ _ _ _ _ _ _ _ _ _ _ _ _ _ _
      | exact ih7 _ _ _ _ _ _ _ _ _ _ _ _ _ _ _ _ _ _ _ _ _
      | exact ih8 _ _ _ _ _ _ _ _ _ _
      | exact dailieslaw06_shown.mono _
      | exact dailiesref06_Samples.mono _ _ _ _ _
      | exact plane_Half.mono _ _ _ _ _ _ _ _ _ _
      | exact plane_Size.mono _ _ _ _ _ _
      | exact LeO.none _
      | refine LeO.ite ?_ ?_
      | refine LeO.bind ?_ (fun _ => ?_)
theorem dailieslaw06_PlaneTiled.mono : ∀ a0 a1 a2 a3 a4 a5 k, LeO (dailieslaw06_PlaneTiled.f k a0 a1 a2 a3 a4 a5) (dailieslaw06_PlaneTiled.f (k + 1) a0 a1 a2 a3 a4 a5) := by
  intro a0 a1 a2 a3 a4 a5 k
  obtain ⟨ih0, ih1, ih2, ih3, ih4, ih5, ih6, ih7, ih8⟩ := dailieslaw06_PlaneTiled.mono_l k
  unfold dailieslaw06_PlaneTiled.f
  repeat' first
      | (with_reducible exact ih0 _ _ _ _ _ _ _ _ _)
      | (with_reducible exact ih1 _ _ _ _ _ _ _ _)
      | (with_reducible exact ih2 _ _ _ _ _ _ _ _ _ _ _)
      | (with_reducible exact ih3 _ _ _ _ _ _ _ _ _ _ _ _ _)
      | (with_reducible exact ih4 _ _ _ _ _ _ _ _ _ _ _ _ _ _ _)
      | (with_reducible exact ih5 _ _ _ _ _ _ _ _ _ _ _ _ _ _ _ _)
      | (with_reducible exact ih6 _ _ _ _ _ _ _ _ _ _ _ _ _ _ _ _ _ _ _ _ _)
      | (with_reducible exact ih7 _ _ _ _ _ _ _ _ _ _ _ _ _ _ _ _ _ _ _ _ _)
      | (with_reducible exact ih8 _ _ _ _ _ _ _ _ _ _)
      | (with_reducible exact dailieslaw06_shown.mono _)
      | (with_reducible exact dailiesref06_Samples.mono _ _ _ _ _)
      | (with_reducible exact plane_Half.mono _ _ _ _ _ _ _ _ _ _)
      | (with_reducible exact plane_Size.mono _ _ _ _ _ _)
      | (with_reducible exact LeO.refl _)
      | (with_reducible exact LeO.none _)
      | (with_reducible refine LeO.ite ?_ ?_)
      | (with_reducible refine LeO.bind ?_ (fun _ => ?_))
      | exact ih0 _ _ _ _ _ _ _ _ _
      | exact ih1 _ _ _ _ _ _ _ _
      | exact ih2 _ _ _ _ _ _ _ _ _ _ _
      | exact ih3 _ _ _ _ _ _ _ _ _ _ _ _ _
      | exact ih4 _ _ _ _ _ _ _ _ _ _ _ _ _ _ _
      | exact ih5 _ _ _ _ _ _ _ _ _ _ _ _ _ _ _ _
      | exact ih6 _ _ _ _ _ _ _ _ _ _ _ _ _ _ _ _ _ _ _ _ _
      | exact ih7 _ _ _ _ _ _ _ _ _ _ _ _ _ _ _ _ _ _ _ _ _
      | exact ih8 _ _ _ _ _ _ _ _ _ _
      | exact dailieslaw06_shown.mono _
      | exact dailiesref06_Samples.mono _ _ _ _ _
      | exact plane_Half.mono _ _ _ _ _ _ _ _ _ _
      | exact plane_Size.mono _ _ _ _ _ _
      | exact LeO.none _
      | refine LeO.ite ?_ ?_
      | refine LeO.bind ?_ (fun _ => ?_)
def dailieslaw06_PlaneTiled.T32 : Bool × List (List Nat × List Nat) := (true, [([], []), ([], []), ([1], [1]), ([], []), ([], []), ([4], [4]), ([3, 5], [3, 5]), ([2, 6], [2, 6]), ([], []), ([7, 8], [7, 8]), ([], []), ([10], [10]), ([9, 11], [9, 11]), ([], []), ([], []), ([14], [14]), ([13, 15], [13, 15]), ([12, 16], [12, 16]), ([0, 17], [0, 17]), ([18], [18]), ([19], [19]), ([0, 17, 0, 1, 2, 3, 4, 5, 6, 7, 8, 9, 10, 11, 12, 13, 14, 15, 16, 17, 18, 19, 20], [0, 17]), ([21, 20, 0, 1, 2, 3, 4, 5, 6, 7, 8, 9, 10, 11, 12, 13, 14, 15, 16, 17, 18, 19, 20], [20, 21])])
def dailieslaw06_PlaneTiled.B32 : List Nat := [0, 0, 2, 0, 0, 16, 56, 126, 0, 510, 0, 1024, 4094, 0, 0, 16384, 57344, 131070, 262143, 524287, 1048575, 2097151, 4194303]
theorem dailieslaw06_PlaneTiled.tab32 : rtab .any (opsOf Try.f8 32) = dailieslaw06_PlaneTiled.T32 := by kernel_rfl
theorem dailieslaw06_PlaneTiled.bits32 : waitsOk dailieslaw06_PlaneTiled.T32.2 dailieslaw06_PlaneTiled.B32 = true := by kernel_rfl
set_option maxHeartbeats 8000000 in
set_option maxRecDepth 100000 in
theorem dailieslaw06_PlaneTiled.calls (k : Nat) (a0_0 : Int) (a0_1 : Int) (a0_2 : Int) (a0_3 : Bool) (A1 : Option Addr) (c1 : Nat) (l1 : List Int) (A2 : Option Addr) (c2 : Nat) (l2 : List Int) (r : Bool) (w : World) (hr1 : Kd.C (Kd.int .i64) w A1 l1.length l1) (hc1 : l1.length ≤ c1) (hr2 : Kd.C (Kd.int .i64) w A2 l2.length l2) (hc2 : l2.length ≤ c2) (h : dailieslaw06_PlaneTiled.f k a0_0 a0_1 a0_2 a0_3 l1 l2 = some r) :
    Calls Try.prog 8 #[.agg #[.int .i64 a0_0, .int .i64 a0_1, .int .i64 a0_2, .bool a0_3], .slice A1 l1.length c1, .slice A2 l2.length c2] w fun e w' => e = .returned (.bool r) ∧ Below w.heap.size w w' := by
  have hu26 := Try.underlying26
  have hu52 := Try.underlying52
  have HR1 := Aside0.mk hr1
  have HC1 := Aside0.mk hc1
  clear hr1 hc1
  have HR2 := Aside0.mk hr2
  have HC2 := Aside0.mk hc2
  clear hr2 hc2
  have HB := Aside0.mk (Below.refl w.heap.size w)
  have H : ((dailieslaw06_shown.f k).bind fun t199 => ((dailiesref06_Samples.f k a0_0 a0_1 a0_2 a0_3).bind fun bt200 => (if t199 = true then (dailieslaw06_PlaneTiled.j0 k l1 l2 t199 bt200.1 (bt200.2 != 0) a0_0 a0_1 a0_2 a0_3) else (dailieslaw06_PlaneTiled.j0 k l1 l2 t199 bt200.1 true a0_0 a0_1 a0_2 a0_3)))) = some r := h
  clear h
  replace H := Option.bind_eq_some_iff.mp H
  obtain ⟨t199, A40, H⟩ := H
  replace H : ((dailiesref06_Samples.f k a0_0 a0_1 a0_2 a0_3).bind fun bt200 => (if t199 = true then (dailieslaw06_PlaneTiled.j0 k l1 l2 t199 bt200.1 (bt200.2 != 0) a0_0 a0_1 a0_2 a0_3) else (dailieslaw06_PlaneTiled.j0 k l1 l2 t199 bt200.1 true a0_0 a0_1 a0_2 a0_3))) = some r := H
  have A4 := Aside0.mk A40
  clear A40
  replace H := Option.bind_eq_some_iff.mp H
  obtain ⟨⟨t200, t201⟩, A50, H⟩ := H
  replace H : (if t199 = true then (dailieslaw06_PlaneTiled.j0 k l1 l2 t199 t200 (t201 != 0) a0_0 a0_1 a0_2 a0_3) else (dailieslaw06_PlaneTiled.j0 k l1 l2 t199 t200 true a0_0 a0_1 a0_2 a0_3)) = some r := H
  have A5 := Aside0.mk A50
  clear A50
  have HC6 := Aside0.mk H
  clear H
  go_enter Try.func8, Try.ntmps8
  go_upto_region 3 with (first | ((with_reducible refine gate_dst (N := 3) rfl ?_); refine box_event ?hg (N := 3) ?hd (cs := #[.int .i64 a0_0, .int .i64 a0_1, .int .i64 a0_2, .bool a0_3]) (t := 26) ?hr ?_; (case hd => rfl); (case hg => rfl); (case hr => first | (go_simp; done) | (go_simp; rfl)); intro gb198 hg w7 hbox hb; have n0_ := Aside0.mk (below_step (by repeat (first | (with_reducible first | exact HB.out | apply below_alloc | apply pw_below_drewN | apply below_drew1) | exact HB.out)) hb); have n1_ := Aside0.mk (hbox); have n2_ := Aside0.mk ((by rw [hg]; exact (below_size (by repeat (first | (with_reducible first | exact HB.out | apply below_alloc | apply pw_below_drewN | apply below_drew1) | exact HB.out))) : w.heap.size ≤ gb198)); have n3_ := Aside0.mk ((by rw [hg]; exact (below_size (by repeat (first | (with_reducible first | exact HB.out | apply below_alloc | apply pw_below_drewN | apply below_drew1) | exact HB.out))) : w.heap.size ≤ gb198)); clear HB; have HB := n0_; have BK198 := n1_; have GW198 := n2_; have GE198 := n3_; clear n0_ n1_ n2_ n3_; clear hb hbox hg) | ((with_reducible refine gate_callee (f := 16) rfl ?_); refine goesL_ (some 25) rfl rfl Try.func16 (by kernel_rfl) rfl #[] rfl (by (try simp only [List.map_toArray, List.map_cons, List.map_nil]); first | done | rfl | (simp only [List.length_drop, List.length_take]; rfl)) ?_; (with_reducible refine (dailieslaw06_shown.calls k  t199 _ A4.out).mono ?_); rintro e w8 ⟨rfl, hb⟩; refine ⟨_, rfl, ?_⟩; have n0_ := Aside0.mk (blk_below (g := gb198) (o := .cells #[.int .i64 a0_0, .int .i64 a0_1, .int .i64 a0_2, .bool a0_3] 26 (0, 0)) (by (with_reducible repeat (first | refine blk_drewN ?_ _ | refine blk_drew ?_ | refine blk_alloc ?_ _)); exact BK198.out) hb); have n1_ := Aside0.mk (below_step (by repeat (first | (with_reducible first | exact HB.out | apply below_alloc | apply pw_below_drewN | apply below_drew1 | refine below_set ?_ GE198.out) | exact HB.out)) hb); clear BK198; clear HB; have BK198 := n0_; have HB := n1_; clear n0_ n1_; (try clear hb); (try clear hb2); (try clear hk); (try clear hi); have hcz9_0 : w8.cell? ⟨gb198, 0, none⟩ = some (.int .i64 a0_0) := (blk_cell BK198.out 0).trans rfl; have hcz9_1 : w8.cell? ⟨gb198, 1, none⟩ = some (.int .i64 a0_1) := (blk_cell BK198.out 1).trans rfl; have hcz9_2 : w8.cell? ⟨gb198, 2, none⟩ = some (.int .i64 a0_2) := (blk_cell BK198.out 2).trans rfl; have hcz9_3 : w8.cell? ⟨gb198, 3, none⟩ = some (.bool a0_3) := (blk_cell BK198.out 3).trans rfl; have hfz9_0 := blk_frozen BK198.out 0; have hfz9_1 := blk_frozen BK198.out 1; have hfz9_2 := blk_frozen BK198.out 2; have hfz9_3 := blk_frozen BK198.out 3) | ((with_reducible refine gate_callee (f := 21) rfl ?_); refine goesL_ (some 28) rfl rfl Try.func21 (by kernel_rfl) rfl #[.agg #[.int .i64 a0_0, .int .i64 a0_1, .int .i64 a0_2, .bool a0_3]] rfl (by (try simp only [List.map_toArray, List.map_cons, List.map_nil]); first | done | rfl | (simp only [List.length_drop, List.length_take]; rfl)) ?_; (with_reducible refine (dailiesref06_Samples.calls k a0_0 a0_1 a0_2 a0_3 t200 t201 _ A5.out).mono ?_); rintro e w10 ⟨rfl, hb⟩; refine ⟨_, rfl, ?_⟩; have n0_ := Aside0.mk (blk_below (g := gb198) (o := .cells #[.int .i64 a0_0, .int .i64 a0_1, .int .i64 a0_2, .bool a0_3] 26 (0, 0)) (by (with_reducible repeat (first | refine blk_drewN ?_ _ | refine blk_drew ?_ | refine blk_alloc ?_ _)); exact BK198.out) hb); have n1_ := Aside0.mk (below_step (by repeat (first | (with_reducible first | exact HB.out | apply below_alloc | apply pw_below_drewN | apply below_drew1 | refine below_set ?_ GE198.out) | exact HB.out)) hb); clear BK198; clear HB; have BK198 := n0_; have HB := n1_; clear n0_ n1_; (try clear hb); (try clear hb2); (try clear hk); (try clear hi)))
  (try simp only [Act.put, List.setIfInBounds_toArray, List.set_cons_zero, List.set_cons_succ])
  go_cut [36] (fun v36 wc => ∃ (kq : Nat) (x36_5 : Bool), v36 = .bool x36_5 ∧ Aside0 (dailieslaw06_PlaneTiled.j0 kq l1 l2 t199 t200 x36_5 a0_0 a0_1 a0_2 a0_3 = some r) ∧ Aside0 (kq ≤ k) ∧ Aside0 (wc.heap[gb198]? = some (.cells #[.int .i64 a0_0, .int .i64 a0_1, .int .i64 a0_2, .bool a0_3] 26 (0, 0))) ∧ Aside0 (Below w.heap.size w wc))
  case first =>
    have H := HC6.out
    clear HC6
    by_cases c11 : t199 = true
    · subst c11
      have H1 : (dailieslaw06_PlaneTiled.j0 k l1 l2 true t200 (t201 != 0) a0_0 a0_1 a0_2 a0_3) = some r := by rw [if_pos rfl] at H; exact H
      clear H
      have H := H1
      clear H1
      as_aux_lemma =>
        have H' := Aside0.mk H
        clear H
        go_wp2
        go_meet
        case rel => exact ⟨_, ((t201 != 0)), (by first | rfl | (simp; done) | (simp [*]; done)), H', ⟨by first | omega | exact Nat.le_refl _⟩, ⟨by (with_reducible repeat (first | refine blk_drewN ?_ _ | refine blk_drew ?_ | refine blk_alloc ?_ _)); exact BK198.out⟩, ⟨by repeat (first | (with_reducible first | exact HB.out | apply below_alloc | apply pw_below_drewN | apply below_drew1 | refine below_set ?_ GE198.out) | exact HB.out)⟩⟩
    · replace c11 := Bool.eq_false_iff.mpr c11
      subst c11
      have H1 : (dailieslaw06_PlaneTiled.j0 k l1 l2 false t200 true a0_0 a0_1 a0_2 a0_3) = some r := by rw [if_neg (show ¬ (false = true) by decide)] at H; exact H
      clear H
      have H := H1
      clear H1
      as_aux_lemma =>
        have H' := Aside0.mk H
        clear H
        go_wp2
        go_meet
        case rel => exact ⟨_, (true), (by first | rfl | (simp; done) | (simp [*]; done)), H', ⟨by first | omega | exact Nat.le_refl _⟩, ⟨by (with_reducible repeat (first | refine blk_drewN ?_ _ | refine blk_drew ?_ | refine blk_alloc ?_ _)); exact BK198.out⟩, ⟨by repeat (first | (with_reducible first | exact HB.out | apply below_alloc | apply pw_below_drewN | apply below_drew1 | refine below_set ?_ GE198.out) | exact HB.out)⟩⟩
  case rest =>
    clear HC6
    try clear c1
    try clear c2
    try clear p2
    try clear c8
    try clear c11
    try clear hcz9_0
    try clear hcz9_1
    try clear hcz9_2
    try clear hcz9_3
    try clear hfz9_0
    try clear hfz9_1
    try clear hfz9_2
    try clear hfz9_3
    obtain ⟨kq, x36_5, rfl, HA, HJ5, BK198, HB⟩ := hcut
    cases kq with
    | zero => exact absurd HA.out (by simp [dailieslaw06_PlaneTiled.j0])
    | succ kj5 =>
      have H := HA.out
      clear HA
      simp only [dailieslaw06_PlaneTiled.j0] at H
      by_cases c12 : x36_5 = true
      · subst c12
        have H1 : (some t199) = some r := by rw [if_pos rfl] at H; exact H
        clear H
        have H := H1
        clear H1
        as_aux_lemma =>
          obtain rfl := Option.some.inj H
          go_wp2
          go_ret
          exact ⟨by first | rfl | (simp [errW_none, errW_some] <;> rfl) | (simp [*, errW_none, errW_some] <;> rfl), by repeat (first | (with_reducible first | exact HB.out | apply below_alloc | apply pw_below_drewN | apply below_drew1 | refine below_set ?_ GE198.out) | exact HB.out)⟩
      · replace c12 := Bool.eq_false_iff.mpr c12
        subst c12
        have H1 : (dailieslaw06_PlaneTiled.l0 kj5 l1 l2 t200 0 a0_0 a0_1 a0_2 a0_3) = some r := by rw [if_neg (show ¬ (false = true) by decide)] at H; exact H
        clear H
        have H := H1
        clear H1
        have H' := Aside0.mk H
        clear H
        go_wp2
        go_loopg [10] kj5 (fun kq v10 w' => ∃ (x10_2 : Int), v10 = .int .i64 x10_2 ∧ Aside0 (dailieslaw06_PlaneTiled.l0 kq l1 l2 t200 x10_2 a0_0 a0_1 a0_2 a0_3 = some r) ∧ Aside0 (kq ≤ kj5) ∧ Aside0 (w'.heap[gb198]? = some (.cells #[.int .i64 a0_0, .int .i64 a0_1, .int .i64 a0_2, .bool a0_3] 26 (0, 0))) ∧ Aside0 (Below w.heap.size w w'))
        case atStart => exact ⟨(0), (by first | rfl | (simp; done) | (simp [*]; done)), H', ⟨Nat.le_refl _⟩, ⟨by (with_reducible repeat (first | refine blk_drewN ?_ _ | refine blk_drew ?_ | refine blk_alloc ?_ _)); exact BK198.out⟩, ⟨by repeat (first | (with_reducible first | exact HB.out | apply below_alloc | apply pw_below_drewN | apply below_drew1 | refine below_set ?_ GE198.out) | exact HB.out)⟩⟩
        case round =>
          clear H'
          try clear c1
          try clear c2
          try clear p2
          try clear c8
          try clear c11
          try clear c12
          try clear hcz9_0
          try clear hcz9_1
          try clear hcz9_2
          try clear hcz9_3
          try clear hfz9_0
          try clear hfz9_1
          try clear hfz9_2
          try clear hfz9_3
          try clear p2
          obtain ⟨x10_2, rfl, HA, HK2, BK198, HB⟩ := hrel
          cases gk with
          | zero => exact absurd HA.out (by simp [dailieslaw06_PlaneTiled.l0])
          | succ k2 =>
            have H := HA.out
            clear HA
            simp only [dailieslaw06_PlaneTiled.l0] at H
            by_cases c13 : x10_2 < 4
            · rw [if_pos c13] at H
              have c13b0 : decide (x10_2 < 4) = true := decide_eq_true c13
              clear c13
              replace H := Option.bind_eq_some_iff.mp H
              obtain ⟨⟨t202, t203, t204⟩, A140, H⟩ := H
              replace H : (if t204 = 0 then (if t202 < 1 then (dailieslaw06_PlaneTiled.j2 k2 l1 l2 t200 x10_2 t202 t203 true a0_0 a0_1 a0_2 a0_3) else (if t203 < 1 then (dailieslaw06_PlaneTiled.j2 k2 l1 l2 t200 x10_2 t202 t203 true a0_0 a0_1 a0_2 a0_3) else (if t202 > t200 then (dailieslaw06_PlaneTiled.j2 k2 l1 l2 t200 x10_2 t202 t203 true a0_0 a0_1 a0_2 a0_3) else (if t203 > t200 then (dailieslaw06_PlaneTiled.j2 k2 l1 l2 t200 x10_2 t202 t203 true a0_0 a0_1 a0_2 a0_3) else (dailieslaw06_PlaneTiled.j2 k2 l1 l2 t200 x10_2 t202 t203 (decide ((wrap64 (t202 * t203)) > t200)) a0_0 a0_1 a0_2 a0_3))))) else (if x10_2 < 3 then (some false) else (if a0_3 = true then (some false) else (dailieslaw06_PlaneTiled.l0 k2 l1 l2 t200 (wrap64 (x10_2 + 1)) a0_0 a0_1 a0_2 a0_3)))) = some r := H
              have A14 := Aside0.mk A140
              clear A140
              by_cases c15 : t204 = 0
              · rw [if_pos c15] at H
                have c15b0 : (t204 == 0) = true := beq_iff_eq.mpr c15
                have c15b1 : (t204 != 0) = false := bne_eq_false_iff_eq.mpr c15
                clear c15
                have HC16 := Aside0.mk H
                clear H
                have hcz17_0 : wr.cell? ⟨gb198, 0, none⟩ = some (.int .i64 a0_0) := (blk_cell BK198.out 0).trans rfl
                have hcz17_1 : wr.cell? ⟨gb198, 1, none⟩ = some (.int .i64 a0_1) := (blk_cell BK198.out 1).trans rfl
                have hcz17_2 : wr.cell? ⟨gb198, 2, none⟩ = some (.int .i64 a0_2) := (blk_cell BK198.out 2).trans rfl
                have hcz17_3 : wr.cell? ⟨gb198, 3, none⟩ = some (.bool a0_3) := (blk_cell BK198.out 3).trans rfl
                have hfz17_0 := blk_frozen BK198.out 0
                have hfz17_1 := blk_frozen BK198.out 1
                have hfz17_2 := blk_frozen BK198.out 2
                have hfz17_3 := blk_frozen BK198.out 3
                go_upto_region 12 with (first | ((with_reducible refine gate_callee (f := 18) rfl ?_); refine goesL_ (some 45) rfl rfl Try.func18 (by kernel_rfl) rfl #[.agg #[.int .i64 a0_0, .int .i64 a0_1, .int .i64 a0_2, .bool a0_3], .int .i64 x10_2] rfl (by (try simp only [List.map_toArray, List.map_cons, List.map_nil]); first | done | rfl | (simp only [List.length_drop, List.length_take]; rfl)) ?_; (with_reducible refine (plane_Size.calls k2 a0_0 a0_1 a0_2 a0_3 x10_2 t202 t203 t204 _ A14.out).mono ?_); rintro e w18 ⟨rfl, hb⟩; refine ⟨_, rfl, ?_⟩; have n0_ := Aside0.mk (blk_below (g := gb198) (o := .cells #[.int .i64 a0_0, .int .i64 a0_1, .int .i64 a0_2, .bool a0_3] 26 (0, 0)) (by (with_reducible repeat (first | refine blk_drewN ?_ _ | refine blk_drew ?_ | refine blk_alloc ?_ _)); exact BK198.out) hb); have n1_ := Aside0.mk (below_step (by repeat (first | (with_reducible first | exact HB.out | apply below_alloc | apply pw_below_drewN | apply below_drew1 | refine below_set ?_ GE198.out) | exact HB.out)) hb); clear BK198; clear HB; have BK198 := n0_; have HB := n1_; clear n0_ n1_; (try clear hb); (try clear hb2); (try clear hk); (try clear hi)))
                (try simp only [Act.put, List.setIfInBounds_toArray, List.set_cons_zero, List.set_cons_succ])
                go_cut [79] (fun v79 wc => ∃ (kq : Nat) (x79_15 : Bool), v79 = .bool x79_15 ∧ Aside0 (dailieslaw06_PlaneTiled.j2 kq l1 l2 t200 x10_2 t202 t203 x79_15 a0_0 a0_1 a0_2 a0_3 = some r) ∧ Aside0 (kq ≤ k2) ∧ Aside0 (wc.heap[gb198]? = some (.cells #[.int .i64 a0_0, .int .i64 a0_1, .int .i64 a0_2, .bool a0_3] 26 (0, 0))) ∧ Aside0 (Below w.heap.size w wc))
                case first =>
                  have H := HC16.out
                  clear HC16
                  by_cases c19 : t202 < 1
                  · rw [if_pos c19] at H
                    have c19b0 : decide (t202 < 1) = true := decide_eq_true c19
                    clear c19
                    (first | rw [c19b0] | (simp only [i64_w, i32_w]; rw [c19b0]) | skip)
                    as_aux_lemma =>
                      have H' := Aside0.mk H
                      clear H
                      go_wp2
                      go_meet
                      case rel => exact ⟨_, (true), (by first | rfl | (simp; done) | (simp [*]; done)), H', ⟨by have := HJ5.out; have := HK2.out; first | omega | exact Nat.le_refl _⟩, ⟨by (with_reducible repeat (first | refine blk_drewN ?_ _ | refine blk_drew ?_ | refine blk_alloc ?_ _)); exact BK198.out⟩, ⟨by repeat (first | (with_reducible first | exact HB.out | apply below_alloc | apply pw_below_drewN | apply below_drew1 | refine below_set ?_ GE198.out) | exact HB.out)⟩⟩
                  · rw [if_neg c19] at H
                    have c19b0 : decide (t202 < 1) = false := decide_eq_false c19
                    clear c19
                    (first | rw [c19b0] | (simp only [i64_w, i32_w]; rw [c19b0]) | skip)
                    by_cases c20 : t203 < 1
                    · rw [if_pos c20] at H
                      have c20b0 : decide (t203 < 1) = true := decide_eq_true c20
                      clear c20
                      as_aux_lemma =>
                        have H' := Aside0.mk H
                        clear H
                        go_wp2
                        go_meet
                        case rel => exact ⟨_, (true), (by first | rfl | (simp; done) | (simp [*]; done)), H', ⟨by have := HJ5.out; have := HK2.out; first | omega | exact Nat.le_refl _⟩, ⟨by (with_reducible repeat (first | refine blk_drewN ?_ _ | refine blk_drew ?_ | refine blk_alloc ?_ _)); exact BK198.out⟩, ⟨by repeat (first | (with_reducible first | exact HB.out | apply below_alloc | apply pw_below_drewN | apply below_drew1 | refine below_set ?_ GE198.out) | exact HB.out)⟩⟩
                    · rw [if_neg c20] at H
                      have c20b0 : decide (t203 < 1) = false := decide_eq_false c20
                      clear c20
                      by_cases c21 : t202 > t200
                      · rw [if_pos c21] at H
                        have c21b0 : decide (t200 < t202) = true := decide_eq_true c21
                        clear c21
                        as_aux_lemma =>
                          have H' := Aside0.mk H
                          clear H
                          go_wp2
                          go_meet
                          case rel => exact ⟨_, (true), (by first | rfl | (simp; done) | (simp [*]; done)), H', ⟨by have := HJ5.out; have := HK2.out; first | omega | exact Nat.le_refl _⟩, ⟨by (with_reducible repeat (first | refine blk_drewN ?_ _ | refine blk_drew ?_ | refine blk_alloc ?_ _)); exact BK198.out⟩, ⟨by repeat (first | (with_reducible first | exact HB.out | apply below_alloc | apply pw_below_drewN | apply below_drew1 | refine below_set ?_ GE198.out) | exact HB.out)⟩⟩
                      · rw [if_neg c21] at H
                        have c21b0 : decide (t200 < t202) = false := decide_eq_false c21
                        clear c21
                        by_cases c22 : t203 > t200
                        · rw [if_pos c22] at H
                          have c22b0 : decide (t200 < t203) = true := decide_eq_true c22
                          clear c22
                          as_aux_lemma =>
                            have H' := Aside0.mk H
                            clear H
                            go_wp2
                            go_meet
                            case rel => exact ⟨_, (true), (by first | rfl | (simp; done) | (simp [*]; done)), H', ⟨by have := HJ5.out; have := HK2.out; first | omega | exact Nat.le_refl _⟩, ⟨by (with_reducible repeat (first | refine blk_drewN ?_ _ | refine blk_drew ?_ | refine blk_alloc ?_ _)); exact BK198.out⟩, ⟨by repeat (first | (with_reducible first | exact HB.out | apply below_alloc | apply pw_below_drewN | apply below_drew1 | refine below_set ?_ GE198.out) | exact HB.out)⟩⟩
                        · rw [if_neg c22] at H
                          have c22b0 : decide (t200 < t203) = false := decide_eq_false c22
                          clear c22
                          as_aux_lemma =>
                            have H' := Aside0.mk H
                            clear H
                            go_wp2
                            go_meet
                            case rel => exact ⟨_, (decide ((wrap64 (t202 * t203)) > t200)), (by first | rfl | (simp; done) | (simp [*]; done)), H', ⟨by have := HJ5.out; have := HK2.out; first | omega | exact Nat.le_refl _⟩, ⟨by (with_reducible repeat (first | refine blk_drewN ?_ _ | refine blk_drew ?_ | refine blk_alloc ?_ _)); exact BK198.out⟩, ⟨by repeat (first | (with_reducible first | exact HB.out | apply below_alloc | apply pw_below_drewN | apply below_drew1 | refine below_set ?_ GE198.out) | exact HB.out)⟩⟩
                case rest =>
                  clear HC16
                  try clear c1
                  try clear c2
                  try clear p2
                  try clear p6
                  try clear c8
                  try clear c11
                  try clear c12
                  try clear c13
                  try clear c13b0
                  try clear c15
                  try clear c15b0
                  try clear c15b1
                  try clear c16
                  try clear c18
                  try clear c19
                  try clear c19b0
                  try clear c20
                  try clear c20b0
                  try clear c21
                  try clear c21b0
                  try clear c22
                  try clear c22b0
                  try clear hcz17_0
                  try clear hcz17_1
                  try clear hcz17_2
                  try clear hcz17_3
                  try clear hcz9_0
                  try clear hcz9_1
                  try clear hcz9_2
                  try clear hcz9_3
                  try clear hfz17_0
                  try clear hfz17_1
                  try clear hfz17_2
                  try clear hfz17_3
                  try clear hfz9_0
                  try clear hfz9_1
                  try clear hfz9_2
                  try clear hfz9_3
                  try clear p2
                  obtain ⟨kq, x79_15, rfl, HA, HJ15, BK198, HB⟩ := hcut
                  cases kq with
                  | zero => exact absurd HA.out (by simp [dailieslaw06_PlaneTiled.j2])
                  | succ kj15 =>
                    have H := HA.out
                    clear HA
                    simp only [dailieslaw06_PlaneTiled.j2] at H
                    by_cases c23 : x79_15 = true
                    · subst c23
                      have H1 : (some false) = some r := by rw [if_pos rfl] at H; exact H
                      clear H
                      have H := H1
                      clear H1
                      as_aux_lemma =>
                        obtain rfl := Option.some.inj H
                        go_wp2
                        go_ret
                        exact ⟨by first | rfl | (simp [errW_none, errW_some] <;> rfl) | (simp [*, errW_none, errW_some] <;> rfl), by repeat (first | (with_reducible first | exact HB.out | apply below_alloc | apply pw_below_drewN | apply below_drew1 | refine below_set ?_ GE198.out) | exact HB.out)⟩
                    · replace c23 := Bool.eq_false_iff.mpr c23
                      subst c23
                      have H1 : (if 0 ≤ (wrap64 (t202 * t203)) then (if (wrap64 (t202 * t203) : Int).toNat ≤ 35184372088832 then (dailieslaw06_PlaneTiled.l1 kj15 l1 l2 t200 x10_2 t202 t203 (List.replicate (wrap64 (t202 * t203) : Int).toNat 0) 0 0 a0_0 a0_1 a0_2 a0_3) else (none)) else (none)) = some r := by rw [if_neg (show ¬ (false = true) by decide)] at H; exact H
                      clear H
                      have H := H1
                      clear H1
                      obtain ⟨ji24, hji24⟩ : ∃ j_ : Int, (wrap64 (t202 * t203)) = j_ := ⟨_, rfl⟩
                      replace H : (if 0 ≤ (ji24) then (if (ji24 : Int).toNat ≤ 35184372088832 then (dailieslaw06_PlaneTiled.l1 kj15 l1 l2 t200 x10_2 t202 t203 (List.replicate (ji24 : Int).toNat 0) 0 0 a0_0 a0_1 a0_2 a0_3) else (none)) else (none)) = some r := by first | (rw [hji24] at H; exact H) | (simp only [hji24] at H ⊢; exact H)
                      have hji24w : (IntKind.i64.wrap (t202 * t203)) = ji24 := (i64_w _).trans hji24
                      by_cases c25 : 0 ≤ (ji24)
                      · rw [if_pos c25] at H
                        have c25b0 := eq_true c25
                        have c25b1 : decide (0 ≤ (ji24)) = true := decide_eq_true c25
                        clear c25
                        by_cases c26 : (ji24 : Int).toNat ≤ 35184372088832
                        · rw [if_pos c26] at H
                          have c26b0 := eq_true c26
                          have c26b1 : decide ((ji24 : Int).toNat ≤ 35184372088832) = true := decide_eq_true c26
                          clear c26
                          obtain ⟨y205, hy205⟩ : ∃ y_ : List Int, y_ = (List.replicate (ji24 : Int).toNat 0) := ⟨_, rfl⟩
                          replace H : (dailieslaw06_PlaneTiled.l1 kj15 l1 l2 t200 x10_2 t202 t203 y205 0 0 a0_0 a0_1 a0_2 a0_3) = some r := by first | (rw [hy205]; with_reducible exact H) | (have H2_ := (Option.bind_some _ _).symm.trans H; rw [hy205]; with_reducible exact H2_) | (have H2_ := (Option.bind_some _ _).symm.trans H; with_reducible exact H2_) | with_reducible exact H | (rw [hy205]; exact H) | exact H
                          have Ny205 := Aside0.mk hy205
                          clear hy205
                          have H' := Aside0.mk H
                          clear H
                          go_wp2_with (first | ((with_reducible refine gate_dst (N := 83) rfl ?_); refine Kd.R_make (Kd.int .i64) _ 3 rfl (N := 83) rfl 64 _ _ rfl ji24 rfl rfl Try.underlying64 (.int .i64 0) 8 info3 rfl (by decide) (by omega) 0 (ok := fun _ => True) (okp := fun _ => True) rfl (fun _ hk => hk) trivial (of_decide_eq_true (by first | (with_reducible assumption) | assumption)) (Nat.le_trans (Nat.mul_le_mul_right _ (of_decide_eq_true (by first | (with_reducible assumption) | assumption) : ji24.toNat ≤ 35184372088832)) (by omega)) (Below.refl _ _) (Nat.le_refl _) ?_; intro v206 w27 ho28 hb hg_ hnew_; clear hg_ hnew_; (first | rw [← Ny205.out] at ho28 | (simp only [Int.reduceToNat] at ho28; rw [← Ny205.out] at ho28)); have n0_ := Aside0.mk (Kd.R_lower ho28 (below_size (by repeat (first | (with_reducible first | exact HB.out | apply below_alloc | apply pw_below_drewN | apply below_drew1 | refine below_set ?_ GE198.out) | exact HB.out)))); have n1_ := Aside0.mk (blk_below (g := gb198) (o := .cells #[.int .i64 a0_0, .int .i64 a0_1, .int .i64 a0_2, .bool a0_3] 26 (0, 0)) (by (with_reducible repeat (first | refine blk_drewN ?_ _ | refine blk_drew ?_ | refine blk_alloc ?_ _)); exact BK198.out) hb); have n2_ := Aside0.mk (below_step (by repeat (first | (with_reducible first | exact HB.out | apply below_alloc | apply pw_below_drewN | apply below_drew1 | refine below_set ?_ GE198.out) | exact HB.out)) hb); clear BK198; clear HB; have HO207 := n0_; have BK198 := n1_; have HB := n2_; clear n0_ n1_ n2_; clear hb ho28))
                          go_loopg [15, 16] kj15 (fun kq v15 v16 w' => ∃ (x14_4 : List Int) (x15_4 : Int) (x16_4 : Int), v15 = .int .i64 x15_4 ∧ v16 = .int .i64 x16_4 ∧ Aside0 (dailieslaw06_PlaneTiled.l1 kq l1 l2 t200 x10_2 t202 t203 x14_4 x15_4 x16_4 a0_0 a0_1 a0_2 a0_3 = some r) ∧ Aside0 (kq ≤ kj15) ∧ Aside0 (Kd.R (Kd.int .i64) 3 w' w.heap.size (fun _ => True) v206 x14_4) ∧ Aside0 (w'.heap[gb198]? = some (.cells #[.int .i64 a0_0, .int .i64 a0_1, .int .i64 a0_2, .bool a0_3] 26 (0, 0))) ∧ Aside0 (Below w.heap.size w w'))
                          case atStart => exact ⟨(y205), (0), (0), (by first | rfl | (simp; done) | (simp [*]; done)), (by first | rfl | (simp; done) | (simp [*]; done)), H', ⟨Nat.le_refl _⟩, ⟨by (with_reducible repeat (first | apply Kd.R_alloc | apply Kd.R_drewN | apply Kd.R_drew)); exact HO207.out⟩, ⟨by (with_reducible repeat (first | refine blk_drewN ?_ _ | refine blk_drew ?_ | refine blk_alloc ?_ _)); exact BK198.out⟩, ⟨by repeat (first | (with_reducible first | exact HB.out | apply below_alloc | apply pw_below_drewN | apply below_drew1 | refine below_set ?_ GE198.out) | exact HB.out)⟩⟩
                          case round =>
                            clear H'
                            try clear c1
                            try clear c2
                            try clear p2
                            try clear p6
                            try clear c8
                            try clear c11
                            try clear c12
                            try clear c13
                            try clear c13b0
                            try clear c15
                            try clear c15b0
                            try clear c15b1
                            try clear c16
                            try clear c18
                            try clear c19
                            try clear c19b0
                            try clear c20
                            try clear c20b0
                            try clear c21
                            try clear c21b0
                            try clear c22
                            try clear c22b0
                            try clear c23
                            try clear c25
                            try clear c25b0
                            try clear c25b1
                            try clear c26
                            try clear c26b0
                            try clear c26b1
                            try clear hcz17_0
                            try clear hcz17_1
                            try clear hcz17_2
                            try clear hcz17_3
                            try clear hcz9_0
                            try clear hcz9_1
                            try clear hcz9_2
                            try clear hcz9_3
                            try clear hfz17_0
                            try clear hfz17_1
                            try clear hfz17_2
                            try clear hfz17_3
                            try clear hfz9_0
                            try clear hfz9_1
                            try clear hfz9_2
                            try clear hfz9_3
                            try clear p2
                            try clear p6
                            obtain ⟨x14_4, x15_4, x16_4, rfl, rfl, HA, HK4, HO_14, BK198, HB⟩ := hrel
                            cases gk with
                            | zero => exact absurd HA.out (by simp [dailieslaw06_PlaneTiled.l1])
                            | succ k4 =>
                              have H := HA.out
                              clear HA
                              simp only [dailieslaw06_PlaneTiled.l1] at H
                              by_cases c29 : x16_4 < a0_1
                              · rw [if_pos c29] at H
                                have c29b0 : decide (x16_4 < a0_1) = true := decide_eq_true c29
                                clear c29
                                replace H := Option.bind_eq_some_iff.mp H
                                obtain ⟨t208, A300, H⟩ := H
                                replace H : (dailieslaw06_PlaneTiled.l2 k4 l1 l2 t200 x10_2 t202 t203 x14_4 (wrap64 (x15_4 + 1)) x16_4 (wrap64 (1 + t208)) 0 a0_0 a0_1 a0_2 a0_3) = some r := H
                                have A30 := Aside0.mk A300
                                clear A300
                                have H' := Aside0.mk H
                                clear H
                                have hcz31_0 : wr.cell? ⟨gb198, 0, none⟩ = some (.int .i64 a0_0) := (blk_cell BK198.out 0).trans rfl
                                have hcz31_1 : wr.cell? ⟨gb198, 1, none⟩ = some (.int .i64 a0_1) := (blk_cell BK198.out 1).trans rfl
                                have hcz31_2 : wr.cell? ⟨gb198, 2, none⟩ = some (.int .i64 a0_2) := (blk_cell BK198.out 2).trans rfl
                                have hcz31_3 : wr.cell? ⟨gb198, 3, none⟩ = some (.bool a0_3) := (blk_cell BK198.out 3).trans rfl
                                have hfz31_0 := blk_frozen BK198.out 0
                                have hfz31_1 := blk_frozen BK198.out 1
                                have hfz31_2 := blk_frozen BK198.out 2
                                have hfz31_3 := blk_frozen BK198.out 3
                                go_wp2_with (first | ((with_reducible refine gate_callee (f := 39) rfl ?_); refine goesL_ (some 95) rfl rfl Try.func39 (by kernel_rfl) rfl #[.slice A2 l2.length c2, .int .i64 x16_4, .int .i64 (wrap64 (a0_1 - x16_4))] rfl (by (try simp only [List.map_toArray, List.map_cons, List.map_nil]); first | done | rfl | (simp only [List.length_drop, List.length_take]; rfl)) ?_; (with_reducible refine (dailieslaw06_raw.calls _ _ l2 x16_4 (wrap64 (a0_1 - x16_4)) t208 _ ?side1 ?side2 A30.out).mono ?_); (case side1 => repeat (first | exact (Kd.C_below HR2.out HB.out) | (with_reducible refine Kd.C_alloc ?_ _) | (with_reducible refine Kd.C_drewN ?_ _) | (with_reducible refine Kd.C_drew ?_))); (case side2 => exact HC2.out); rintro e w' ⟨rfl, ⟨nd, rfl⟩⟩; refine ⟨_, rfl, ?_⟩))
                                go_loopg [19] k4 (fun kq v19 w' => ∃ (x14_5 : List Int) (x19_5 : Int), v19 = .int .i64 x19_5 ∧ Aside0 (dailieslaw06_PlaneTiled.l2 kq l1 l2 t200 x10_2 t202 t203 x14_5 (wrap64 (x15_4 + 1)) x16_4 (wrap64 (1 + t208)) x19_5 a0_0 a0_1 a0_2 a0_3 = some r) ∧ Aside0 (kq ≤ k4) ∧ Aside0 (Kd.R (Kd.int .i64) 3 w' w.heap.size (fun _ => True) v206 x14_5) ∧ Aside0 (w'.heap[gb198]? = some (.cells #[.int .i64 a0_0, .int .i64 a0_1, .int .i64 a0_2, .bool a0_3] 26 (0, 0))) ∧ Aside0 (Below w.heap.size w w'))
                                case atStart => exact ⟨(x14_4), (0), (by first | rfl | (simp; done) | (simp [*]; done)), H', ⟨Nat.le_refl _⟩, ⟨by (with_reducible repeat (first | apply Kd.R_alloc | apply Kd.R_drewN | apply Kd.R_drew)); exact HO_14.out⟩, ⟨by (with_reducible repeat (first | refine blk_drewN ?_ _ | refine blk_drew ?_ | refine blk_alloc ?_ _)); exact BK198.out⟩, ⟨by repeat (first | (with_reducible first | exact HB.out | apply below_alloc | apply pw_below_drewN | apply below_drew1 | refine below_set ?_ GE198.out) | exact HB.out)⟩⟩
                                case round =>
                                  clear H'
                                  try clear c1
                                  try clear c2
                                  try clear p2
                                  try clear c3
                                  try clear p6
                                  try clear c8
                                  try clear c11
                                  try clear c12
                                  try clear c13
                                  try clear c13b0
                                  try clear c15
                                  try clear c15b0
                                  try clear c15b1
                                  try clear c16
                                  try clear c18
                                  try clear c19
                                  try clear c19b0
                                  try clear c20
                                  try clear c20b0
                                  try clear c21
                                  try clear c21b0
                                  try clear c22
                                  try clear c22b0
                                  try clear c23
                                  try clear c25
                                  try clear c25b0
                                  try clear c25b1
                                  try clear c26
                                  try clear c26b0
                                  try clear c26b1
                                  try clear c29
                                  try clear c29b0
                                  try clear hcz17_0
                                  try clear hcz17_1
                                  try clear hcz17_2
                                  try clear hcz17_3
                                  try clear hcz31_0
                                  try clear hcz31_1
                                  try clear hcz31_2
                                  try clear hcz31_3
                                  try clear hcz9_0
                                  try clear hcz9_1
                                  try clear hcz9_2
                                  try clear hcz9_3
                                  try clear hfz17_0
                                  try clear hfz17_1
                                  try clear hfz17_2
                                  try clear hfz17_3
                                  try clear hfz31_0
                                  try clear hfz31_1
                                  try clear hfz31_2
                                  try clear hfz31_3
                                  try clear hfz9_0
                                  try clear hfz9_1
                                  try clear hfz9_2
                                  try clear hfz9_3
                                  try clear p2
                                  try clear p6
                                  obtain ⟨x14_5, x19_5, rfl, HA, HK5, HO_14, BK198, HB⟩ := hrel
                                  cases gk with
                                  | zero => exact absurd HA.out (by simp [dailieslaw06_PlaneTiled.l2])
                                  | succ k5 =>
                                    have H := HA.out
                                    clear HA
                                    simp only [dailieslaw06_PlaneTiled.l2] at H
                                    by_cases c32 : x19_5 < a0_0
                                    · rw [if_pos c32] at H
                                      have c32b0 : decide (x19_5 < a0_0) = true := decide_eq_true c32
                                      clear c32
                                      replace H := Option.bind_eq_some_iff.mp H
                                      obtain ⟨t209, A330, H⟩ := H
                                      replace H : (if (wrap64 (x19_5 + (wrap64 (2 * (wrap64 (1 + t209)))))) > a0_0 then (dailieslaw06_PlaneTiled.j5 k5 l1 l2 t200 x10_2 t202 t203 x14_5 (wrap64 (x15_4 + 1)) x16_4 (wrap64 (1 + t208)) x19_5 (wrap64 (a0_0 - x19_5)) a0_0 a0_1 a0_2 a0_3) else (dailieslaw06_PlaneTiled.j5 k5 l1 l2 t200 x10_2 t202 t203 x14_5 (wrap64 (x15_4 + 1)) x16_4 (wrap64 (1 + t208)) x19_5 (wrap64 (2 * (wrap64 (1 + t209)))) a0_0 a0_1 a0_2 a0_3)) = some r := H
                                      have A33 := Aside0.mk A330
                                      clear A330
                                      have HC34 := Aside0.mk H
                                      clear H
                                      have hcz35_0 : wr.cell? ⟨gb198, 0, none⟩ = some (.int .i64 a0_0) := (blk_cell BK198.out 0).trans rfl
                                      have hcz35_1 : wr.cell? ⟨gb198, 1, none⟩ = some (.int .i64 a0_1) := (blk_cell BK198.out 1).trans rfl
                                      have hcz35_2 : wr.cell? ⟨gb198, 2, none⟩ = some (.int .i64 a0_2) := (blk_cell BK198.out 2).trans rfl
                                      have hcz35_3 : wr.cell? ⟨gb198, 3, none⟩ = some (.bool a0_3) := (blk_cell BK198.out 3).trans rfl
                                      have hfz35_0 := blk_frozen BK198.out 0
                                      have hfz35_1 := blk_frozen BK198.out 1
                                      have hfz35_2 := blk_frozen BK198.out 2
                                      have hfz35_3 := blk_frozen BK198.out 3
                                      go_upto_if 116 with (first | ((with_reducible refine gate_callee (f := 39) rfl ?_); refine goesL_ (some 108) rfl rfl Try.func39 (by kernel_rfl) rfl #[.slice A1 l1.length c1, .int .i64 (wrap64 ((wrap64 (Int.tdiv x19_5 2)) + (wrap64 (x15_4 + 1)))), .int .i64 9] rfl (by (try simp only [List.map_toArray, List.map_cons, List.map_nil]); first | done | rfl | (simp only [List.length_drop, List.length_take]; rfl)) ?_; (with_reducible refine (dailieslaw06_raw.calls _ _ l1 (wrap64 ((wrap64 (Int.tdiv x19_5 2)) + (wrap64 (x15_4 + 1)))) 9 t209 _ ?side1 ?side2 A33.out).mono ?_); (case side1 => repeat (first | exact (Kd.C_below HR1.out HB.out) | (with_reducible refine Kd.C_alloc ?_ _) | (with_reducible refine Kd.C_drewN ?_ _) | (with_reducible refine Kd.C_drew ?_))); (case side2 => exact HC1.out); rintro e w' ⟨rfl, ⟨nd, rfl⟩⟩; refine ⟨_, rfl, ?_⟩))
                                      (try simp only [Act.put, List.setIfInBounds_toArray, List.set_cons_zero, List.set_cons_succ])
                                      go_cut [20] (fun v20 wc => ∃ (kq : Nat) (x20_33 : Int), v20 = .int .i64 x20_33 ∧ Aside0 (dailieslaw06_PlaneTiled.j5 kq l1 l2 t200 x10_2 t202 t203 x14_5 (wrap64 (x15_4 + 1)) x16_4 (wrap64 (1 + t208)) x19_5 x20_33 a0_0 a0_1 a0_2 a0_3 = some r) ∧ Aside0 (kq ≤ k5) ∧ Aside0 (Kd.R (Kd.int .i64) 3 wc w.heap.size (fun _ => True) v206 x14_5) ∧ Aside0 (wc.heap[gb198]? = some (.cells #[.int .i64 a0_0, .int .i64 a0_1, .int .i64 a0_2, .bool a0_3] 26 (0, 0))) ∧ Aside0 (Below w.heap.size w wc))
                                      case first =>
                                        have H := HC34.out
                                        clear HC34
                                        by_cases c36 : (wrap64 (x19_5 + (wrap64 (2 * (wrap64 (1 + t209)))))) > a0_0
                                        · rw [if_pos c36] at H
                                          have c36b0 : decide (a0_0 < (wrap64 (x19_5 + (wrap64 (2 * (wrap64 (1 + t209))))))) = true := decide_eq_true c36
                                          clear c36
                                          (first | rw [c36b0] | (simp only [i64_w, i32_w]; rw [c36b0]) | skip)
                                          as_aux_lemma =>
                                            have H' := Aside0.mk H
                                            clear H
                                            have hcz37_0 : wr.cell? ⟨gb198, 0, none⟩ = some (.int .i64 a0_0) := (blk_cell BK198.out 0).trans rfl
                                            have hcz37_1 : wr.cell? ⟨gb198, 1, none⟩ = some (.int .i64 a0_1) := (blk_cell BK198.out 1).trans rfl
                                            have hcz37_2 : wr.cell? ⟨gb198, 2, none⟩ = some (.int .i64 a0_2) := (blk_cell BK198.out 2).trans rfl
                                            have hcz37_3 : wr.cell? ⟨gb198, 3, none⟩ = some (.bool a0_3) := (blk_cell BK198.out 3).trans rfl
                                            have hfz37_0 := blk_frozen BK198.out 0
                                            have hfz37_1 := blk_frozen BK198.out 1
                                            have hfz37_2 := blk_frozen BK198.out 2
                                            have hfz37_3 := blk_frozen BK198.out 3
                                            go_wp2
                                            go_meet
                                            case rel => exact ⟨_, (wrap64 (a0_0 - x19_5)), (by first | rfl | (simp; done) | (simp [*]; done)), H', ⟨by have := HJ5.out; have := HK2.out; have := HJ15.out; have := HK4.out; have := HK5.out; first | omega | exact Nat.le_refl _⟩, ⟨by (with_reducible repeat (first | apply Kd.R_alloc | apply Kd.R_drewN | apply Kd.R_drew)); exact HO_14.out⟩, ⟨by (with_reducible repeat (first | refine blk_drewN ?_ _ | refine blk_drew ?_ | refine blk_alloc ?_ _)); exact BK198.out⟩, ⟨by repeat (first | (with_reducible first | exact HB.out | apply below_alloc | apply pw_below_drewN | apply below_drew1 | refine below_set ?_ GE198.out) | exact HB.out)⟩⟩
                                        · rw [if_neg c36] at H
                                          have c36b0 : decide (a0_0 < (wrap64 (x19_5 + (wrap64 (2 * (wrap64 (1 + t209))))))) = false := decide_eq_false c36
                                          clear c36
                                          (first | rw [c36b0] | (simp only [i64_w, i32_w]; rw [c36b0]) | skip)
                                          as_aux_lemma =>
                                            have H' := Aside0.mk H
                                            clear H
                                            go_wp2
                                            go_meet
                                            case rel => exact ⟨_, (wrap64 (2 * (wrap64 (1 + t209)))), (by first | rfl | (simp; done) | (simp [*]; done)), H', ⟨by have := HJ5.out; have := HK2.out; have := HJ15.out; have := HK4.out; have := HK5.out; first | omega | exact Nat.le_refl _⟩, ⟨by (with_reducible repeat (first | apply Kd.R_alloc | apply Kd.R_drewN | apply Kd.R_drew)); exact HO_14.out⟩, ⟨by (with_reducible repeat (first | refine blk_drewN ?_ _ | refine blk_drew ?_ | refine blk_alloc ?_ _)); exact BK198.out⟩, ⟨by repeat (first | (with_reducible first | exact HB.out | apply below_alloc | apply pw_below_drewN | apply below_drew1 | refine below_set ?_ GE198.out) | exact HB.out)⟩⟩
                                      case rest =>
                                        clear HC34
                                        try clear c1
                                        try clear c2
                                        try clear p2
                                        try clear c3
                                        try clear p6
                                        try clear c8
                                        try clear c11
                                        try clear c12
                                        try clear c13
                                        try clear c13b0
                                        try clear c15
                                        try clear c15b0
                                        try clear c15b1
                                        try clear c16
                                        try clear c18
                                        try clear c19
                                        try clear c19b0
                                        try clear c20
                                        try clear c20b0
                                        try clear c21
                                        try clear c21b0
                                        try clear c22
                                        try clear c22b0
                                        try clear c23
                                        try clear c25
                                        try clear c25b0
                                        try clear c25b1
                                        try clear c26
                                        try clear c26b0
                                        try clear c26b1
                                        try clear c29
                                        try clear c29b0
                                        try clear c32
                                        try clear c32b0
                                        try clear c36
                                        try clear c36b0
                                        try clear hcz17_0
                                        try clear hcz17_1
                                        try clear hcz17_2
                                        try clear hcz17_3
                                        try clear hcz31_0
                                        try clear hcz31_1
                                        try clear hcz31_2
                                        try clear hcz31_3
                                        try clear hcz35_0
                                        try clear hcz35_1
                                        try clear hcz35_2
                                        try clear hcz35_3
                                        try clear hcz37_0
                                        try clear hcz37_1
                                        try clear hcz37_2
                                        try clear hcz37_3
                                        try clear hcz9_0
                                        try clear hcz9_1
                                        try clear hcz9_2
                                        try clear hcz9_3
                                        try clear hfz17_0
                                        try clear hfz17_1
                                        try clear hfz17_2
                                        try clear hfz17_3
                                        try clear hfz31_0
                                        try clear hfz31_1
                                        try clear hfz31_2
                                        try clear hfz31_3
                                        try clear hfz35_0
                                        try clear hfz35_1
                                        try clear hfz35_2
                                        try clear hfz35_3
                                        try clear hfz37_0
                                        try clear hfz37_1
                                        try clear hfz37_2
                                        try clear hfz37_3
                                        try clear hfz9_0
                                        try clear hfz9_1
                                        try clear hfz9_2
                                        try clear hfz9_3
                                        try clear p2
                                        try clear p6
                                        obtain ⟨kq, x20_33, rfl, HA, HJ33, HO_14, BK198, HB⟩ := hcut
                                        cases kq with
                                        | zero => exact absurd HA.out (by simp [dailieslaw06_PlaneTiled.j5])
                                        | succ kj33 =>
                                          have H := HA.out
                                          clear HA
                                          simp only [dailieslaw06_PlaneTiled.j5] at H
                                          replace H := Option.bind_eq_some_iff.mp H
                                          obtain ⟨⟨t210, t211, t212, t213, t214⟩, A380, H⟩ := H
                                          replace H : (if t214 = 0 then (if t210 < 0 then (dailieslaw06_PlaneTiled.j6 kj33 l1 l2 t200 x10_2 t202 t203 x14_5 (wrap64 (x15_4 + 1)) x16_4 (wrap64 (1 + t208)) x19_5 x20_33 true a0_0 a0_1 a0_2 a0_3 t210 t211 t212 t213) else (if t211 < 0 then (dailieslaw06_PlaneTiled.j6 kj33 l1 l2 t200 x10_2 t202 t203 x14_5 (wrap64 (x15_4 + 1)) x16_4 (wrap64 (1 + t208)) x19_5 x20_33 true a0_0 a0_1 a0_2 a0_3 t210 t211 t212 t213) else (if t212 < 1 then (dailieslaw06_PlaneTiled.j6 kj33 l1 l2 t200 x10_2 t202 t203 x14_5 (wrap64 (x15_4 + 1)) x16_4 (wrap64 (1 + t208)) x19_5 x20_33 true a0_0 a0_1 a0_2 a0_3 t210 t211 t212 t213) else (if t213 < 1 then (dailieslaw06_PlaneTiled.j6 kj33 l1 l2 t200 x10_2 t202 t203 x14_5 (wrap64 (x15_4 + 1)) x16_4 (wrap64 (1 + t208)) x19_5 x20_33 true a0_0 a0_1 a0_2 a0_3 t210 t211 t212 t213) else (if t210 > t202 then (dailieslaw06_PlaneTiled.j6 kj33 l1 l2 t200 x10_2 t202 t203 x14_5 (wrap64 (x15_4 + 1)) x16_4 (wrap64 (1 + t208)) x19_5 x20_33 true a0_0 a0_1 a0_2 a0_3 t210 t211 t212 t213) else (if t211 > t203 then (dailieslaw06_PlaneTiled.j6 kj33 l1 l2 t200 x10_2 t202 t203 x14_5 (wrap64 (x15_4 + 1)) x16_4 (wrap64 (1 + t208)) x19_5 x20_33 true a0_0 a0_1 a0_2 a0_3 t210 t211 t212 t213) else (if t212 > (wrap64 (t202 - t210)) then (dailieslaw06_PlaneTiled.j6 kj33 l1 l2 t200 x10_2 t202 t203 x14_5 (wrap64 (x15_4 + 1)) x16_4 (wrap64 (1 + t208)) x19_5 x20_33 true a0_0 a0_1 a0_2 a0_3 t210 t211 t212 t213) else (dailieslaw06_PlaneTiled.j6 kj33 l1 l2 t200 x10_2 t202 t203 x14_5 (wrap64 (x15_4 + 1)) x16_4 (wrap64 (1 + t208)) x19_5 x20_33 (decide (t213 > (wrap64 (t203 - t211)))) a0_0 a0_1 a0_2 a0_3 t210 t211 t212 t213)))))))) else (dailieslaw06_PlaneTiled.j6 kj33 l1 l2 t200 x10_2 t202 t203 x14_5 (wrap64 (x15_4 + 1)) x16_4 (wrap64 (1 + t208)) x19_5 x20_33 true a0_0 a0_1 a0_2 a0_3 t210 t211 t212 t213)) = some r := H
                                          have A38 := Aside0.mk A380
                                          clear A380
                                          have HC39 := Aside0.mk H
                                          clear H
                                          have hcz40_0 : wc.cell? ⟨gb198, 0, none⟩ = some (.int .i64 a0_0) := (blk_cell BK198.out 0).trans rfl
                                          have hcz40_1 : wc.cell? ⟨gb198, 1, none⟩ = some (.int .i64 a0_1) := (blk_cell BK198.out 1).trans rfl
                                          have hcz40_2 : wc.cell? ⟨gb198, 2, none⟩ = some (.int .i64 a0_2) := (blk_cell BK198.out 2).trans rfl
                                          have hcz40_3 : wc.cell? ⟨gb198, 3, none⟩ = some (.bool a0_3) := (blk_cell BK198.out 3).trans rfl
                                          have hfz40_0 := blk_frozen BK198.out 0
                                          have hfz40_1 := blk_frozen BK198.out 1
                                          have hfz40_2 := blk_frozen BK198.out 2
                                          have hfz40_3 := blk_frozen BK198.out 3
                                          go_upto_region 27 with (first | ((with_reducible refine gate_callee (f := 37) rfl ?_); refine goesL_ (some 129) rfl rfl Try.func37 (by kernel_rfl) rfl #[.agg #[.int .i64 a0_0, .int .i64 a0_1, .int .i64 a0_2, .bool a0_3], .int .i64 x10_2, .agg #[.int .i64 x19_5, .int .i64 x16_4, .int .i64 x20_33, .int .i64 (wrap64 (1 + t208))]] rfl (by (try simp only [List.map_toArray, List.map_cons, List.map_nil]); first | done | rfl | (simp only [List.length_drop, List.length_take]; rfl)) ?_; (with_reducible refine (plane_Half.calls kj33 a0_0 a0_1 a0_2 a0_3 x10_2 x19_5 x16_4 x20_33 (wrap64 (1 + t208)) t210 t211 t212 t213 t214 _ A38.out).mono ?_); rintro e w41 ⟨rfl, hb⟩; refine ⟨_, rfl, ?_⟩; have n0_ := Aside0.mk (Kd.R_below (by (with_reducible repeat (first | apply Kd.R_alloc | apply Kd.R_drewN | apply Kd.R_drew)); exact HO_14.out) hb); have n1_ := Aside0.mk (blk_below (g := gb198) (o := .cells #[.int .i64 a0_0, .int .i64 a0_1, .int .i64 a0_2, .bool a0_3] 26 (0, 0)) (by (with_reducible repeat (first | refine blk_drewN ?_ _ | refine blk_drew ?_ | refine blk_alloc ?_ _)); exact BK198.out) hb); have n2_ := Aside0.mk (below_step (by repeat (first | (with_reducible first | exact HB.out | apply below_alloc | apply pw_below_drewN | apply below_drew1 | refine below_set ?_ GE198.out) | exact HB.out)) hb); clear HO_14; clear BK198; clear HB; have HO_14 := n0_; have BK198 := n1_; have HB := n2_; clear n0_ n1_ n2_; (try clear hb); (try clear hb2); (try clear hk); (try clear hi)) | ((with_reducible refine gate_dst (N := 21) rfl ?_); refine box_event ?hg (N := 21) ?hd (cs := #[.int .i64 0, .int .i64 0, .int .i64 0, .int .i64 0]) (t := 52) ?hr ?_; (case hd => rfl); (case hg => rfl); (case hr => first | (go_simp; done) | (go_simp; rfl)); intro gb215 hg w42 hbox hb; have n0_ := Aside0.mk (Kd.R_below (by (with_reducible repeat (first | apply Kd.R_alloc | apply Kd.R_drewN | apply Kd.R_drew)); exact HO_14.out) hb); have n1_ := Aside0.mk (blk_below (g := gb198) (o := .cells #[.int .i64 a0_0, .int .i64 a0_1, .int .i64 a0_2, .bool a0_3] 26 (0, 0)) (by (with_reducible repeat (first | refine blk_drewN ?_ _ | refine blk_drew ?_ | refine blk_alloc ?_ _)); exact BK198.out) hb); have n2_ := Aside0.mk (below_step (by repeat (first | (with_reducible first | exact HB.out | apply below_alloc | apply pw_below_drewN | apply below_drew1 | refine below_set ?_ GE198.out) | exact HB.out)) hb); have n3_ := Aside0.mk (hbox); have n4_ := Aside0.mk ((by rw [hg]; exact (below_size (by repeat (first | (with_reducible first | exact HB.out | apply below_alloc | apply pw_below_drewN | apply below_drew1 | refine below_set ?_ GE198.out) | exact HB.out))) : w.heap.size ≤ gb215)); have n5_ := Aside0.mk ((by rw [hg]; exact (below_size (by repeat (first | (with_reducible first | exact HB.out | apply below_alloc | apply pw_below_drewN | apply below_drew1 | refine below_set ?_ GE198.out) | exact HB.out))) : w.heap.size ≤ gb215)); have n6_ := Aside0.mk ((by rw [hg]; exact Nat.ne_of_lt (blk_lt (g := gb198) (o := .cells #[.int .i64 a0_0, .int .i64 a0_1, .int .i64 a0_2, .bool a0_3] 26 (0, 0)) (by (with_reducible repeat (first | refine blk_drewN ?_ _ | refine blk_drew ?_ | refine blk_alloc ?_ _)); exact BK198.out)) : gb198 ≠ gb215)); have n7_ := Aside0.mk ((by rw [hg]; exact Nat.ne_of_gt (blk_lt (g := gb198) (o := .cells #[.int .i64 a0_0, .int .i64 a0_1, .int .i64 a0_2, .bool a0_3] 26 (0, 0)) (by (with_reducible repeat (first | refine blk_drewN ?_ _ | refine blk_drew ?_ | refine blk_alloc ?_ _)); exact BK198.out)) : gb215 ≠ gb198)); clear HO_14; clear BK198; clear HB; have HO_14 := n0_; have BK198 := n1_; have HB := n2_; have BK215 := n3_; have GW215 := n4_; have GE215 := n5_; have NB198_215 := n6_; have NB215_198 := n7_; clear n0_ n1_ n2_ n3_ n4_ n5_ n6_ n7_; clear hb hbox hg; have hnb43 := NB215_198.out; have hnc43 := NB198_215.out; have hcz44_0 : w42.cell? ⟨gb215, 0, none⟩ = some (.int .i64 0) := (blk_cell BK215.out 0).trans rfl; have hcz44_1 : w42.cell? ⟨gb215, 1, none⟩ = some (.int .i64 0) := (blk_cell BK215.out 1).trans rfl; have hcz44_2 : w42.cell? ⟨gb215, 2, none⟩ = some (.int .i64 0) := (blk_cell BK215.out 2).trans rfl; have hcz44_3 : w42.cell? ⟨gb215, 3, none⟩ = some (.int .i64 0) := (blk_cell BK215.out 3).trans rfl; have hfz44_0 := blk_frozen BK215.out 0; have hfz44_1 := blk_frozen BK215.out 1; have hfz44_2 := blk_frozen BK215.out 2; have hfz44_3 := blk_frozen BK215.out 3))
                                          (try simp only [Act.put, List.setIfInBounds_toArray, List.set_cons_zero, List.set_cons_succ])
                                          go_cut [183] (fun v183 wc => ∃ (kq : Nat) (x183_38 : Bool), v183 = .bool x183_38 ∧ Aside0 (dailieslaw06_PlaneTiled.j6 kq l1 l2 t200 x10_2 t202 t203 x14_5 (wrap64 (x15_4 + 1)) x16_4 (wrap64 (1 + t208)) x19_5 x20_33 x183_38 a0_0 a0_1 a0_2 a0_3 t210 t211 t212 t213 = some r) ∧ Aside0 (kq ≤ kj33) ∧ Aside0 (Kd.R (Kd.int .i64) 3 wc w.heap.size (fun _ => True) v206 x14_5) ∧ Aside0 (wc.heap[gb198]? = some (.cells #[.int .i64 a0_0, .int .i64 a0_1, .int .i64 a0_2, .bool a0_3] 26 (0, 0))) ∧ Aside0 (wc.heap[gb215]? = some (.cells #[.int .i64 t210, .int .i64 t211, .int .i64 t212, .int .i64 t213] 52 (0, 0))) ∧ Aside0 (Below w.heap.size w wc))
                                          case first =>
                                            have H := HC39.out
                                            clear HC39
                                            by_cases c45 : t214 = 0
                                            · rw [if_pos c45] at H
                                              have c45b0 : (t214 == 0) = true := beq_iff_eq.mpr c45
                                              have c45b1 : (t214 != 0) = false := bne_eq_false_iff_eq.mpr c45
                                              clear c45
                                              (first | rw [c45b0] | (simp only [i64_w, i32_w]; rw [c45b0]) | skip)
                                              by_cases c46 : t210 < 0
                                              · rw [if_pos c46] at H
                                                have c46b0 : decide (t210 < 0) = true := decide_eq_true c46
                                                clear c46
                                                as_aux_lemma =>
                                                  have H' := Aside0.mk H
                                                  clear H
                                                  have hnb47 := NB215_198.out
                                                  have hnc47 := NB198_215.out
                                                  have hcz48_0 : w42.cell? ⟨gb215, 0, none⟩ = some (.int .i64 0) := (blk_cell BK215.out 0).trans rfl
                                                  have hcz48_1 : w42.cell? ⟨gb215, 1, none⟩ = some (.int .i64 0) := (blk_cell BK215.out 1).trans rfl
                                                  have hcz48_2 : w42.cell? ⟨gb215, 2, none⟩ = some (.int .i64 0) := (blk_cell BK215.out 2).trans rfl
                                                  have hcz48_3 : w42.cell? ⟨gb215, 3, none⟩ = some (.int .i64 0) := (blk_cell BK215.out 3).trans rfl
                                                  have hfz48_0 := blk_frozen BK215.out 0
                                                  have hfz48_1 := blk_frozen BK215.out 1
                                                  have hfz48_2 := blk_frozen BK215.out 2
                                                  have hfz48_3 := blk_frozen BK215.out 3
                                                  go_wp2
                                                  go_meet
                                                  case rel => exact ⟨_, (true), (by first | rfl | (simp; done) | (simp [*]; done)), H', ⟨by have := HJ5.out; have := HK2.out; have := HJ15.out; have := HK4.out; have := HK5.out; have := HJ33.out; first | omega | exact Nat.le_refl _⟩, ⟨by (with_reducible repeat (first | apply Kd.R_alloc | apply Kd.R_drewN | apply Kd.R_drew)); exact Kd.R_mono (Kd.R_far (p := ⟨gb215, 3, none⟩) (Kd.R_far (p := ⟨gb215, 2, none⟩) (Kd.R_far (p := ⟨gb215, 1, none⟩) (Kd.R_far (p := ⟨gb215, 0, none⟩) (Kd.R_types HO_14.out BK215.out (by decide)) (fun _ hk => hk.2) (.int .i64 t210)) (fun _ hk => hk.2) (.int .i64 t211)) (fun _ hk => hk.2) (.int .i64 t212)) (fun _ hk => hk.2) (.int .i64 t213)) (fun _ hk => trivial)⟩, ⟨by (with_reducible repeat (first | refine blk_drewN ?_ _ | refine blk_drew ?_ | refine blk_alloc ?_ _)); refine blk_far ?_ NB198_215.out _; (with_reducible repeat (first | refine blk_drewN ?_ _ | refine blk_drew ?_ | refine blk_alloc ?_ _)); refine blk_far ?_ NB198_215.out _; (with_reducible repeat (first | refine blk_drewN ?_ _ | refine blk_drew ?_ | refine blk_alloc ?_ _)); refine blk_far ?_ NB198_215.out _; (with_reducible repeat (first | refine blk_drewN ?_ _ | refine blk_drew ?_ | refine blk_alloc ?_ _)); refine blk_far ?_ NB198_215.out _; (with_reducible repeat (first | refine blk_drewN ?_ _ | refine blk_drew ?_ | refine blk_alloc ?_ _)); exact BK198.out⟩, ⟨by (with_reducible repeat (first | refine blk_drewN ?_ _ | refine blk_drew ?_ | refine blk_alloc ?_ _)); refine blk_put (cs := #[.int .i64 t210, .int .i64 t211, .int .i64 t212, .int .i64 0]) ?_ 3 _ rfl; (with_reducible repeat (first | refine blk_drewN ?_ _ | refine blk_drew ?_ | refine blk_alloc ?_ _)); refine blk_put (cs := #[.int .i64 t210, .int .i64 t211, .int .i64 0, .int .i64 0]) ?_ 2 _ rfl; (with_reducible repeat (first | refine blk_drewN ?_ _ | refine blk_drew ?_ | refine blk_alloc ?_ _)); refine blk_put (cs := #[.int .i64 t210, .int .i64 0, .int .i64 0, .int .i64 0]) ?_ 1 _ rfl; (with_reducible repeat (first | refine blk_drewN ?_ _ | refine blk_drew ?_ | refine blk_alloc ?_ _)); refine blk_put (cs := #[.int .i64 0, .int .i64 0, .int .i64 0, .int .i64 0]) ?_ 0 _ rfl; (with_reducible repeat (first | refine blk_drewN ?_ _ | refine blk_drew ?_ | refine blk_alloc ?_ _)); exact BK215.out⟩, ⟨by repeat (first | (with_reducible first | exact HB.out | apply below_alloc | apply pw_below_drewN | apply below_drew1 | refine below_set ?_ GE198.out | refine below_set ?_ GE215.out) | exact HB.out)⟩⟩
                                              · rw [if_neg c46] at H
                                                have c46b0 : decide (t210 < 0) = false := decide_eq_false c46
                                                clear c46
                                                by_cases c49 : t211 < 0
                                                · rw [if_pos c49] at H
                                                  have c49b0 : decide (t211 < 0) = true := decide_eq_true c49
                                                  clear c49
                                                  as_aux_lemma =>
                                                    have H' := Aside0.mk H
                                                    clear H
                                                    have hnb50 := NB215_198.out
                                                    have hnc50 := NB198_215.out
                                                    have hcz51_0 : w42.cell? ⟨gb215, 0, none⟩ = some (.int .i64 0) := (blk_cell BK215.out 0).trans rfl
                                                    have hcz51_1 : w42.cell? ⟨gb215, 1, none⟩ = some (.int .i64 0) := (blk_cell BK215.out 1).trans rfl
                                                    have hcz51_2 : w42.cell? ⟨gb215, 2, none⟩ = some (.int .i64 0) := (blk_cell BK215.out 2).trans rfl
                                                    have hcz51_3 : w42.cell? ⟨gb215, 3, none⟩ = some (.int .i64 0) := (blk_cell BK215.out 3).trans rfl
                                                    have hfz51_0 := blk_frozen BK215.out 0
                                                    have hfz51_1 := blk_frozen BK215.out 1
                                                    have hfz51_2 := blk_frozen BK215.out 2
                                                    have hfz51_3 := blk_frozen BK215.out 3
                                                    go_wp2
                                                    go_meet
                                                    case rel => exact ⟨_, (true), (by first | rfl | (simp; done) | (simp [*]; done)), H', ⟨by have := HJ5.out; have := HK2.out; have := HJ15.out; have := HK4.out; have := HK5.out; have := HJ33.out; first | omega | exact Nat.le_refl _⟩, ⟨by (with_reducible repeat (first | apply Kd.R_alloc | apply Kd.R_drewN | apply Kd.R_drew)); exact Kd.R_mono (Kd.R_far (p := ⟨gb215, 3, none⟩) (Kd.R_far (p := ⟨gb215, 2, none⟩) (Kd.R_far (p := ⟨gb215, 1, none⟩) (Kd.R_far (p := ⟨gb215, 0, none⟩) (Kd.R_types HO_14.out BK215.out (by decide)) (fun _ hk => hk.2) (.int .i64 t210)) (fun _ hk => hk.2) (.int .i64 t211)) (fun _ hk => hk.2) (.int .i64 t212)) (fun _ hk => hk.2) (.int .i64 t213)) (fun _ hk => trivial)⟩, ⟨by (with_reducible repeat (first | refine blk_drewN ?_ _ | refine blk_drew ?_ | refine blk_alloc ?_ _)); refine blk_far ?_ NB198_215.out _; (with_reducible repeat (first | refine blk_drewN ?_ _ | refine blk_drew ?_ | refine blk_alloc ?_ _)); refine blk_far ?_ NB198_215.out _; (with_reducible repeat (first | refine blk_drewN ?_ _ | refine blk_drew ?_ | refine blk_alloc ?_ _)); refine blk_far ?_ NB198_215.out _; (with_reducible repeat (first | refine blk_drewN ?_ _ | refine blk_drew ?_ | refine blk_alloc ?_ _)); refine blk_far ?_ NB198_215.out _; (with_reducible repeat (first | refine blk_drewN ?_ _ | refine blk_drew ?_ | refine blk_alloc ?_ _)); exact BK198.out⟩, ⟨by (with_reducible repeat (first | refine blk_drewN ?_ _ | refine blk_drew ?_ | refine blk_alloc ?_ _)); refine blk_put (cs := #[.int .i64 t210, .int .i64 t211, .int .i64 t212, .int .i64 0]) ?_ 3 _ rfl; (with_reducible repeat (first | refine blk_drewN ?_ _ | refine blk_drew ?_ | refine blk_alloc ?_ _)); refine blk_put (cs := #[.int .i64 t210, .int .i64 t211, .int .i64 0, .int .i64 0]) ?_ 2 _ rfl; (with_reducible repeat (first | refine blk_drewN ?_ _ | refine blk_drew ?_ | refine blk_alloc ?_ _)); refine blk_put (cs := #[.int .i64 t210, .int .i64 0, .int .i64 0, .int .i64 0]) ?_ 1 _ rfl; (with_reducible repeat (first | refine blk_drewN ?_ _ | refine blk_drew ?_ | refine blk_alloc ?_ _)); refine blk_put (cs := #[.int .i64 0, .int .i64 0, .int .i64 0, .int .i64 0]) ?_ 0 _ rfl; (with_reducible repeat (first | refine blk_drewN ?_ _ | refine blk_drew ?_ | refine blk_alloc ?_ _)); exact BK215.out⟩, ⟨by repeat (first | (with_reducible first | exact HB.out | apply below_alloc | apply pw_below_drewN | apply below_drew1 | refine below_set ?_ GE198.out | refine below_set ?_ GE215.out) | exact HB.out)⟩⟩
                                                · rw [if_neg c49] at H
                                                  have c49b0 : decide (t211 < 0) = false := decide_eq_false c49
                                                  clear c49
                                                  by_cases c52 : t212 < 1
                                                  · rw [if_pos c52] at H
                                                    have c52b0 : decide (t212 < 1) = true := decide_eq_true c52
                                                    clear c52
                                                    as_aux_lemma =>
                                                      have H' := Aside0.mk H
                                                      clear H
                                                      have hnb53 := NB215_198.out
                                                      have hnc53 := NB198_215.out
                                                      have hcz54_0 : w42.cell? ⟨gb215, 0, none⟩ = some (.int .i64 0) := (blk_cell BK215.out 0).trans rfl
                                                      have hcz54_1 : w42.cell? ⟨gb215, 1, none⟩ = some (.int .i64 0) := (blk_cell BK215.out 1).trans rfl
                                                      have hcz54_2 : w42.cell? ⟨gb215, 2, none⟩ = some (.int .i64 0) := (blk_cell BK215.out 2).trans rfl
                                                      have hcz54_3 : w42.cell? ⟨gb215, 3, none⟩ = some (.int .i64 0) := (blk_cell BK215.out 3).trans rfl
                                                      have hfz54_0 := blk_frozen BK215.out 0
                                                      have hfz54_1 := blk_frozen BK215.out 1
                                                      have hfz54_2 := blk_frozen BK215.out 2
                                                      have hfz54_3 := blk_frozen BK215.out 3
                                                      go_wp2
                                                      go_meet
                                                      case rel => exact ⟨_, (true), (by first | rfl | (simp; done) | (simp [*]; done)), H', ⟨by have := HJ5.out; have := HK2.out; have := HJ15.out; have := HK4.out; have := HK5.out; have := HJ33.out; first | omega | exact Nat.le_refl _⟩, ⟨by (with_reducible repeat (first | apply Kd.R_alloc | apply Kd.R_drewN | apply Kd.R_drew)); exact Kd.R_mono (Kd.R_far (p := ⟨gb215, 3, none⟩) (Kd.R_far (p := ⟨gb215, 2, none⟩) (Kd.R_far (p := ⟨gb215, 1, none⟩) (Kd.R_far (p := ⟨gb215, 0, none⟩) (Kd.R_types HO_14.out BK215.out (by decide)) (fun _ hk => hk.2) (.int .i64 t210)) (fun _ hk => hk.2) (.int .i64 t211)) (fun _ hk => hk.2) (.int .i64 t212)) (fun _ hk => hk.2) (.int .i64 t213)) (fun _ hk => trivial)⟩, ⟨by (with_reducible repeat (first | refine blk_drewN ?_ _ | refine blk_drew ?_ | refine blk_alloc ?_ _)); refine blk_far ?_ NB198_215.out _; (with_reducible repeat (first | refine blk_drewN ?_ _ | refine blk_drew ?_ | refine blk_alloc ?_ _)); refine blk_far ?_ NB198_215.out _; (with_reducible repeat (first | refine blk_drewN ?_ _ | refine blk_drew ?_ | refine blk_alloc ?_ _)); refine blk_far ?_ NB198_215.out _; (with_reducible repeat (first | refine blk_drewN ?_ _ | refine blk_drew ?_ | refine blk_alloc ?_ _)); refine blk_far ?_ NB198_215.out _; (with_reducible repeat (first | refine blk_drewN ?_ _ | refine blk_drew ?_ | refine blk_alloc ?_ _)); exact BK198.out⟩, ⟨by (with_reducible repeat (first | refine blk_drewN ?_ _ | refine blk_drew ?_ | refine blk_alloc ?_ _)); refine blk_put (cs := #[.int .i64 t210, .int .i64 t211, .int .i64 t212, .int .i64 0]) ?_ 3 _ rfl; (with_reducible repeat (first | refine blk_drewN ?_ _ | refine blk_drew ?_ | refine blk_alloc ?_ _)); refine blk_put (cs := #[.int .i64 t210, .int .i64 t211, .int .i64 0, .int .i64 0]) ?_ 2 _ rfl; (with_reducible repeat (first | refine blk_drewN ?_ _ | refine blk_drew ?_ | refine blk_alloc ?_ _)); refine blk_put (cs := #[.int .i64 t210, .int .i64 0, .int .i64 0, .int .i64 0]) ?_ 1 _ rfl; (with_reducible repeat (first | refine blk_drewN ?_ _ | refine blk_drew ?_ | refine blk_alloc ?_ _)); refine blk_put (cs := #[.int .i64 0, .int .i64 0, .int .i64 0, .int .i64 0]) ?_ 0 _ rfl; (with_reducible repeat (first | refine blk_drewN ?_ _ | refine blk_drew ?_ | refine blk_alloc ?_ _)); exact BK215.out⟩, ⟨by repeat (first | (with_reducible first | exact HB.out | apply below_alloc | apply pw_below_drewN | apply below_drew1 | refine below_set ?_ GE198.out | refine below_set ?_ GE215.out) | exact HB.out)⟩⟩
                                                  · rw [if_neg c52] at H
                                                    have c52b0 : decide (t212 < 1) = false := decide_eq_false c52
                                                    clear c52
                                                    by_cases c55 : t213 < 1
                                                    · rw [if_pos c55] at H
                                                      have c55b0 : decide (t213 < 1) = true := decide_eq_true c55
                                                      clear c55
                                                      as_aux_lemma =>
                                                        have H' := Aside0.mk H
                                                        clear H
                                                        have hnb56 := NB215_198.out
                                                        have hnc56 := NB198_215.out
                                                        have hcz57_0 : w42.cell? ⟨gb215, 0, none⟩ = some (.int .i64 0) := (blk_cell BK215.out 0).trans rfl
                                                        have hcz57_1 : w42.cell? ⟨gb215, 1, none⟩ = some (.int .i64 0) := (blk_cell BK215.out 1).trans rfl
                                                        have hcz57_2 : w42.cell? ⟨gb215, 2, none⟩ = some (.int .i64 0) := (blk_cell BK215.out 2).trans rfl
                                                        have hcz57_3 : w42.cell? ⟨gb215, 3, none⟩ = some (.int .i64 0) := (blk_cell BK215.out 3).trans rfl
                                                        have hfz57_0 := blk_frozen BK215.out 0
                                                        have hfz57_1 := blk_frozen BK215.out 1
                                                        have hfz57_2 := blk_frozen BK215.out 2
                                                        have hfz57_3 := blk_frozen BK215.out 3
                                                        go_wp2
                                                        go_meet
                                                        case rel => exact ⟨_, (true), (by first | rfl | (simp; done) | (simp [*]; done)), H', ⟨by have := HJ5.out; have := HK2.out; have := HJ15.out; have := HK4.out; have := HK5.out; have := HJ33.out; first | omega | exact Nat.le_refl _⟩, ⟨by (with_reducible repeat (first | apply Kd.R_alloc | apply Kd.R_drewN | apply Kd.R_drew)); exact Kd.R_mono (Kd.R_far (p := ⟨gb215, 3, none⟩) (Kd.R_far (p := ⟨gb215, 2, none⟩) (Kd.R_far (p := ⟨gb215, 1, none⟩) (Kd.R_far (p := ⟨gb215, 0, none⟩) (Kd.R_types HO_14.out BK215.out (by decide)) (fun _ hk => hk.2) (.int .i64 t210)) (fun _ hk => hk.2) (.int .i64 t211)) (fun _ hk => hk.2) (.int .i64 t212)) (fun _ hk => hk.2) (.int .i64 t213)) (fun _ hk => trivial)⟩, ⟨by (with_reducible repeat (first | refine blk_drewN ?_ _ | refine blk_drew ?_ | refine blk_alloc ?_ _)); refine blk_far ?_ NB198_215.out _; (with_reducible repeat (first | refine blk_drewN ?_ _ | refine blk_drew ?_ | refine blk_alloc ?_ _)); refine blk_far ?_ NB198_215.out _; (with_reducible repeat (first | refine blk_drewN ?_ _ | refine blk_drew ?_ | refine blk_alloc ?_ _)); refine blk_far ?_ NB198_215.out _; (with_reducible repeat (first | refine blk_drewN ?_ _ | refine blk_drew ?_ | refine blk_alloc ?_ _)); refine blk_far ?_ NB198_215.out _; (with_reducible repeat (first | refine blk_drewN ?_ _ | refine blk_drew ?_ | refine blk_alloc ?_ _)); exact BK198.out⟩, ⟨by (with_reducible repeat (first | refine blk_drewN ?_ _ | refine blk_drew ?_ | refine blk_alloc ?_ _)); refine blk_put (cs := #[.int .i64 t210, .int .i64 t211, .int .i64 t212, .int .i64 0]) ?_ 3 _ rfl; (with_reducible repeat (first | refine blk_drewN ?_ _ | refine blk_drew ?_ | refine blk_alloc ?_ _)); refine blk_put (cs := #[.int .i64 t210, .int .i64 t211, .int .i64 0, .int .i64 0]) ?_ 2 _ rfl; (with_reducible repeat (first | refine blk_drewN ?_ _ | refine blk_drew ?_ | refine blk_alloc ?_ _)); refine blk_put (cs := #[.int .i64 t210, .int .i64 0, .int .i64 0, .int .i64 0]) ?_ 1 _ rfl; (with_reducible repeat (first | refine blk_drewN ?_ _ | refine blk_drew ?_ | refine blk_alloc ?_ _)); refine blk_put (cs := #[.int .i64 0, .int .i64 0, .int .i64 0, .int .i64 0]) ?_ 0 _ rfl; (with_reducible repeat (first | refine blk_drewN ?_ _ | refine blk_drew ?_ | refine blk_alloc ?_ _)); exact BK215.out⟩, ⟨by repeat (first | (with_reducible first | exact HB.out | apply below_alloc | apply pw_below_drewN | apply below_drew1 | refine below_set ?_ GE198.out | refine below_set ?_ GE215.out) | exact HB.out)⟩⟩
                                                    · rw [if_neg c55] at H
                                                      have c55b0 : decide (t213 < 1) = false := decide_eq_false c55
                                                      clear c55
                                                      by_cases c58 : t210 > t202
                                                      · rw [if_pos c58] at H
                                                        have c58b0 : decide (t202 < t210) = true := decide_eq_true c58
                                                        clear c58
                                                        as_aux_lemma =>
                                                          have H' := Aside0.mk H
                                                          clear H
                                                          have hnb59 := NB215_198.out
                                                          have hnc59 := NB198_215.out
                                                          have hcz60_0 : w42.cell? ⟨gb215, 0, none⟩ = some (.int .i64 0) := (blk_cell BK215.out 0).trans rfl
                                                          have hcz60_1 : w42.cell? ⟨gb215, 1, none⟩ = some (.int .i64 0) := (blk_cell BK215.out 1).trans rfl
                                                          have hcz60_2 : w42.cell? ⟨gb215, 2, none⟩ = some (.int .i64 0) := (blk_cell BK215.out 2).trans rfl
                                                          have hcz60_3 : w42.cell? ⟨gb215, 3, none⟩ = some (.int .i64 0) := (blk_cell BK215.out 3).trans rfl
                                                          have hfz60_0 := blk_frozen BK215.out 0
                                                          have hfz60_1 := blk_frozen BK215.out 1
                                                          have hfz60_2 := blk_frozen BK215.out 2
                                                          have hfz60_3 := blk_frozen BK215.out 3
                                                          go_wp2
                                                          go_meet
                                                          case rel => exact ⟨_, (true), (by first | rfl | (simp; done) | (simp [*]; done)), H', ⟨by have := HJ5.out; have := HK2.out; have := HJ15.out; have := HK4.out; have := HK5.out; have := HJ33.out; first | omega | exact Nat.le_refl _⟩, ⟨by (with_reducible repeat (first | apply Kd.R_alloc | apply Kd.R_drewN | apply Kd.R_drew)); exact Kd.R_mono (Kd.R_far (p := ⟨gb215, 3, none⟩) (Kd.R_far (p := ⟨gb215, 2, none⟩) (Kd.R_far (p := ⟨gb215, 1, none⟩) (Kd.R_far (p := ⟨gb215, 0, none⟩) (Kd.R_types HO_14.out BK215.out (by decide)) (fun _ hk => hk.2) (.int .i64 t210)) (fun _ hk => hk.2) (.int .i64 t211)) (fun _ hk => hk.2) (.int .i64 t212)) (fun _ hk => hk.2) (.int .i64 t213)) (fun _ hk => trivial)⟩, ⟨by (with_reducible repeat (first | refine blk_drewN ?_ _ | refine blk_drew ?_ | refine blk_alloc ?_ _)); refine blk_far ?_ NB198_215.out _; (with_reducible repeat (first | refine blk_drewN ?_ _ | refine blk_drew ?_ | refine blk_alloc ?_ _)); refine blk_far ?_ NB198_215.out _; (with_reducible repeat (first | refine blk_drewN ?_ _ | refine blk_drew ?_ | refine blk_alloc ?_ _)); refine blk_far ?_ NB198_215.out _; (with_reducible repeat (first | refine blk_drewN ?_ _ | refine blk_drew ?_ | refine blk_alloc ?_ _)); refine blk_far ?_ NB198_215.out _; (with_reducible repeat (first | refine blk_drewN ?_ _ | refine blk_drew ?_ | refine blk_alloc ?_ _)); exact BK198.out⟩, ⟨by (with_reducible repeat (first | refine blk_drewN ?_ _ | refine blk_drew ?_ | refine blk_alloc ?_ _)); refine blk_put (cs := #[.int .i64 t210, .int .i64 t211, .int .i64 t212, .int .i64 0]) ?_ 3 _ rfl; (with_reducible repeat (first | refine blk_drewN ?_ _ | refine blk_drew ?_ | refine blk_alloc ?_ _)); refine blk_put (cs := #[.int .i64 t210, .int .i64 t211, .int .i64 0, .int .i64 0]) ?_ 2 _ rfl; (with_reducible repeat (first | refine blk_drewN ?_ _ | refine blk_drew ?_ | refine blk_alloc ?_ _)); refine blk_put (cs := #[.int .i64 t210, .int .i64 0, .int .i64 0, .int .i64 0]) ?_ 1 _ rfl; (with_reducible repeat (first | refine blk_drewN ?_ _ | refine blk_drew ?_ | refine blk_alloc ?_ _)); refine blk_put (cs := #[.int .i64 0, .int .i64 0, .int .i64 0, .int .i64 0]) ?_ 0 _ rfl; (with_reducible repeat (first | refine blk_drewN ?_ _ | refine blk_drew ?_ | refine blk_alloc ?_ _)); exact BK215.out⟩, ⟨by repeat (first | (with_reducible first | exact HB.out | apply below_alloc | apply pw_below_drewN | apply below_drew1 | refine below_set ?_ GE198.out | refine below_set ?_ GE215.out) | exact HB.out)⟩⟩
                                                      · rw [if_neg c58] at H
                                                        have c58b0 : decide (t202 < t210) = false := decide_eq_false c58
                                                        clear c58
                                                        by_cases c61 : t211 > t203
                                                        · rw [if_pos c61] at H
                                                          have c61b0 : decide (t203 < t211) = true := decide_eq_true c61
                                                          clear c61
                                                          as_aux_lemma =>
                                                            have H' := Aside0.mk H
                                                            clear H
                                                            have hnb62 := NB215_198.out
                                                            have hnc62 := NB198_215.out
                                                            have hcz63_0 : w42.cell? ⟨gb215, 0, none⟩ = some (.int .i64 0) := (blk_cell BK215.out 0).trans rfl
                                                            have hcz63_1 : w42.cell? ⟨gb215, 1, none⟩ = some (.int .i64 0) := (blk_cell BK215.out 1).trans rfl
                                                            have hcz63_2 : w42.cell? ⟨gb215, 2, none⟩ = some (.int .i64 0) := (blk_cell BK215.out 2).trans rfl
                                                            have hcz63_3 : w42.cell? ⟨gb215, 3, none⟩ = some (.int .i64 0) := (blk_cell BK215.out 3).trans rfl
                                                            have hfz63_0 := blk_frozen BK215.out 0
                                                            have hfz63_1 := blk_frozen BK215.out 1
                                                            have hfz63_2 := blk_frozen BK215.out 2
                                                            have hfz63_3 := blk_frozen BK215.out 3
                                                            go_wp2
                                                            go_meet
                                                            case rel => exact ⟨_, (true), (by first | rfl | (simp; done) | (simp [*]; done)), H', ⟨by have := HJ5.out; have := HK2.out; have := HJ15.out; have := HK4.out; have := HK5.out; have := HJ33.out; first | omega | exact Nat.le_refl _⟩, ⟨by (with_reducible repeat (first | apply Kd.R_alloc | apply Kd.R_drewN | apply Kd.R_drew)); exact Kd.R_mono (Kd.R_far (p := ⟨gb215, 3, none⟩) (Kd.R_far (p := ⟨gb215, 2, none⟩) (Kd.R_far (p := ⟨gb215, 1, none⟩) (Kd.R_far (p := ⟨gb215, 0, none⟩) (Kd.R_types HO_14.out BK215.out (by decide)) (fun _ hk => hk.2) (.int .i64 t210)) (fun _ hk => hk.2) (.int .i64 t211)) (fun _ hk => hk.2) (.int .i64 t212)) (fun _ hk => hk.2) (.int .i64 t213)) (fun _ hk => trivial)⟩, ⟨by (with_reducible repeat (first | refine blk_drewN ?_ _ | refine blk_drew ?_ | refine blk_alloc ?_ _)); refine blk_far ?_ NB198_215.out _; (with_reducible repeat (first | refine blk_drewN ?_ _ | refine blk_drew ?_ | refine blk_alloc ?_ _)); refine blk_far ?_ NB198_215.out _; (with_reducible repeat (first | refine blk_drewN ?_ _ | refine blk_drew ?_ | refine blk_alloc ?_ _)); refine blk_far ?_ NB198_215.out _; (with_reducible repeat (first | refine blk_drewN ?_ _ | refine blk_drew ?_ | refine blk_alloc ?_ _)); refine blk_far ?_ NB198_215.out _; (with_reducible repeat (first | refine blk_drewN ?_ _ | refine blk_drew ?_ | refine blk_alloc ?_ _)); exact BK198.out⟩, ⟨by (with_reducible repeat (first | refine blk_drewN ?_ _ | refine blk_drew ?_ | refine blk_alloc ?_ _)); refine blk_put (cs := #[.int .i64 t210, .int .i64 t211, .int .i64 t212, .int .i64 0]) ?_ 3 _ rfl; (with_reducible repeat (first | refine blk_drewN ?_ _ | refine blk_drew ?_ | refine blk_alloc ?_ _)); refine blk_put (cs := #[.int .i64 t210, .int .i64 t211, .int .i64 0, .int .i64 0]) ?_ 2 _ rfl; (with_reducible repeat (first | refine blk_drewN ?_ _ | refine blk_drew ?_ | refine blk_alloc ?_ _)); refine blk_put (cs := #[.int .i64 t210, .int .i64 0, .int .i64 0, .int .i64 0]) ?_ 1 _ rfl; (with_reducible repeat (first | refine blk_drewN ?_ _ | refine blk_drew ?_ | refine blk_alloc ?_ _)); refine blk_put (cs := #[.int .i64 0, .int .i64 0, .int .i64 0, .int .i64 0]) ?_ 0 _ rfl; (with_reducible repeat (first | refine blk_drewN ?_ _ | refine blk_drew ?_ | refine blk_alloc ?_ _)); exact BK215.out⟩, ⟨by repeat (first | (with_reducible first | exact HB.out | apply below_alloc | apply pw_below_drewN | apply below_drew1 | refine below_set ?_ GE198.out | refine below_set ?_ GE215.out) | exact HB.out)⟩⟩
                                                        · rw [if_neg c61] at H
                                                          have c61b0 : decide (t203 < t211) = false := decide_eq_false c61
                                                          clear c61
                                                          by_cases c64 : t212 > (wrap64 (t202 - t210))
                                                          · rw [if_pos c64] at H
                                                            have c64b0 : decide ((wrap64 (t202 - t210)) < t212) = true := decide_eq_true c64
                                                            clear c64
                                                            as_aux_lemma =>
                                                              have H' := Aside0.mk H
                                                              clear H
                                                              have hnb65 := NB215_198.out
                                                              have hnc65 := NB198_215.out
                                                              have hcz66_0 : w42.cell? ⟨gb215, 0, none⟩ = some (.int .i64 0) := (blk_cell BK215.out 0).trans rfl
                                                              have hcz66_1 : w42.cell? ⟨gb215, 1, none⟩ = some (.int .i64 0) := (blk_cell BK215.out 1).trans rfl
                                                              have hcz66_2 : w42.cell? ⟨gb215, 2, none⟩ = some (.int .i64 0) := (blk_cell BK215.out 2).trans rfl
                                                              have hcz66_3 : w42.cell? ⟨gb215, 3, none⟩ = some (.int .i64 0) := (blk_cell BK215.out 3).trans rfl
                                                              have hfz66_0 := blk_frozen BK215.out 0
                                                              have hfz66_1 := blk_frozen BK215.out 1
                                                              have hfz66_2 := blk_frozen BK215.out 2
                                                              have hfz66_3 := blk_frozen BK215.out 3
                                                              go_wp2
                                                              go_meet
                                                              case rel => exact ⟨_, (true), (by first | rfl | (simp; done) | (simp [*]; done)), H', ⟨by have := HJ5.out; have := HK2.out; have := HJ15.out; have := HK4.out; have := HK5.out; have := HJ33.out; first | omega | exact Nat.le_refl _⟩, ⟨by (with_reducible repeat (first | apply Kd.R_alloc | apply Kd.R_drewN | apply Kd.R_drew)); exact Kd.R_mono (Kd.R_far (p := ⟨gb215, 3, none⟩) (Kd.R_far (p := ⟨gb215, 2, none⟩) (Kd.R_far (p := ⟨gb215, 1, none⟩) (Kd.R_far (p := ⟨gb215, 0, none⟩) (Kd.R_types HO_14.out BK215.out (by decide)) (fun _ hk => hk.2) (.int .i64 t210)) (fun _ hk => hk.2) (.int .i64 t211)) (fun _ hk => hk.2) (.int .i64 t212)) (fun _ hk => hk.2) (.int .i64 t213)) (fun _ hk => trivial)⟩, ⟨by (with_reducible repeat (first | refine blk_drewN ?_ _ | refine blk_drew ?_ | refine blk_alloc ?_ _)); refine blk_far ?_ NB198_215.out _; (with_reducible repeat (first | refine blk_drewN ?_ _ | refine blk_drew ?_ | refine blk_alloc ?_ _)); refine blk_far ?_ NB198_215.out _; (with_reducible repeat (first | refine blk_drewN ?_ _ | refine blk_drew ?_ | refine blk_alloc ?_ _)); refine blk_far ?_ NB198_215.out _; (with_reducible repeat (first | refine blk_drewN ?_ _ | refine blk_drew ?_ | refine blk_alloc ?_ _)); refine blk_far ?_ NB198_215.out _; (with_reducible repeat (first | refine blk_drewN ?_ _ | refine blk_drew ?_ | refine blk_alloc ?_ _)); exact BK198.out⟩, ⟨by (with_reducible repeat (first | refine blk_drewN ?_ _ | refine blk_drew ?_ | refine blk_alloc ?_ _)); refine blk_put (cs := #[.int .i64 t210, .int .i64 t211, .int .i64 t212, .int .i64 0]) ?_ 3 _ rfl; (with_reducible repeat (first | refine blk_drewN ?_ _ | refine blk_drew ?_ | refine blk_alloc ?_ _)); refine blk_put (cs := #[.int .i64 t210, .int .i64 t211, .int .i64 0, .int .i64 0]) ?_ 2 _ rfl; (with_reducible repeat (first | refine blk_drewN ?_ _ | refine blk_drew ?_ | refine blk_alloc ?_ _)); refine blk_put (cs := #[.int .i64 t210, .int .i64 0, .int .i64 0, .int .i64 0]) ?_ 1 _ rfl; (with_reducible repeat (first | refine blk_drewN ?_ _ | refine blk_drew ?_ | refine blk_alloc ?_ _)); refine blk_put (cs := #[.int .i64 0, .int .i64 0, .int .i64 0, .int .i64 0]) ?_ 0 _ rfl; (with_reducible repeat (first | refine blk_drewN ?_ _ | refine blk_drew ?_ | refine blk_alloc ?_ _)); exact BK215.out⟩, ⟨by repeat (first | (with_reducible first | exact HB.out | apply below_alloc | apply pw_below_drewN | apply below_drew1 | refine below_set ?_ GE198.out | refine below_set ?_ GE215.out) | exact HB.out)⟩⟩
                                                          · rw [if_neg c64] at H
                                                            have c64b0 : decide ((wrap64 (t202 - t210)) < t212) = false := decide_eq_false c64
                                                            clear c64
                                                            as_aux_lemma =>
                                                              have H' := Aside0.mk H
                                                              clear H
                                                              have hnb67 := NB215_198.out
                                                              have hnc67 := NB198_215.out
                                                              have hcz68_0 : w42.cell? ⟨gb215, 0, none⟩ = some (.int .i64 0) := (blk_cell BK215.out 0).trans rfl
                                                              have hcz68_1 : w42.cell? ⟨gb215, 1, none⟩ = some (.int .i64 0) := (blk_cell BK215.out 1).trans rfl
                                                              have hcz68_2 : w42.cell? ⟨gb215, 2, none⟩ = some (.int .i64 0) := (blk_cell BK215.out 2).trans rfl
                                                              have hcz68_3 : w42.cell? ⟨gb215, 3, none⟩ = some (.int .i64 0) := (blk_cell BK215.out 3).trans rfl
                                                              have hfz68_0 := blk_frozen BK215.out 0
                                                              have hfz68_1 := blk_frozen BK215.out 1
                                                              have hfz68_2 := blk_frozen BK215.out 2
                                                              have hfz68_3 := blk_frozen BK215.out 3
                                                              go_wp2
                                                              go_meet
                                                              case rel => exact ⟨_, (decide (t213 > (wrap64 (t203 - t211)))), (by first | rfl | (simp; done) | (simp [*]; done)), H', ⟨by have := HJ5.out; have := HK2.out; have := HJ15.out; have := HK4.out; have := HK5.out; have := HJ33.out; first | omega | exact Nat.le_refl _⟩, ⟨by (with_reducible repeat (first | apply Kd.R_alloc | apply Kd.R_drewN | apply Kd.R_drew)); exact Kd.R_mono (Kd.R_far (p := ⟨gb215, 3, none⟩) (Kd.R_far (p := ⟨gb215, 2, none⟩) (Kd.R_far (p := ⟨gb215, 1, none⟩) (Kd.R_far (p := ⟨gb215, 0, none⟩) (Kd.R_types HO_14.out BK215.out (by decide)) (fun _ hk => hk.2) (.int .i64 t210)) (fun _ hk => hk.2) (.int .i64 t211)) (fun _ hk => hk.2) (.int .i64 t212)) (fun _ hk => hk.2) (.int .i64 t213)) (fun _ hk => trivial)⟩, ⟨by (with_reducible repeat (first | refine blk_drewN ?_ _ | refine blk_drew ?_ | refine blk_alloc ?_ _)); refine blk_far ?_ NB198_215.out _; (with_reducible repeat (first | refine blk_drewN ?_ _ | refine blk_drew ?_ | refine blk_alloc ?_ _)); refine blk_far ?_ NB198_215.out _; (with_reducible repeat (first | refine blk_drewN ?_ _ | refine blk_drew ?_ | refine blk_alloc ?_ _)); refine blk_far ?_ NB198_215.out _; (with_reducible repeat (first | refine blk_drewN ?_ _ | refine blk_drew ?_ | refine blk_alloc ?_ _)); refine blk_far ?_ NB198_215.out _; (with_reducible repeat (first | refine blk_drewN ?_ _ | refine blk_drew ?_ | refine blk_alloc ?_ _)); exact BK198.out⟩, ⟨by (with_reducible repeat (first | refine blk_drewN ?_ _ | refine blk_drew ?_ | refine blk_alloc ?_ _)); refine blk_put (cs := #[.int .i64 t210, .int .i64 t211, .int .i64 t212, .int .i64 0]) ?_ 3 _ rfl; (with_reducible repeat (first | refine blk_drewN ?_ _ | refine blk_drew ?_ | refine blk_alloc ?_ _)); refine blk_put (cs := #[.int .i64 t210, .int .i64 t211, .int .i64 0, .int .i64 0]) ?_ 2 _ rfl; (with_reducible repeat (first | refine blk_drewN ?_ _ | refine blk_drew ?_ | refine blk_alloc ?_ _)); refine blk_put (cs := #[.int .i64 t210, .int .i64 0, .int .i64 0, .int .i64 0]) ?_ 1 _ rfl; (with_reducible repeat (first | refine blk_drewN ?_ _ | refine blk_drew ?_ | refine blk_alloc ?_ _)); refine blk_put (cs := #[.int .i64 0, .int .i64 0, .int .i64 0, .int .i64 0]) ?_ 0 _ rfl; (with_reducible repeat (first | refine blk_drewN ?_ _ | refine blk_drew ?_ | refine blk_alloc ?_ _)); exact BK215.out⟩, ⟨by repeat (first | (with_reducible first | exact HB.out | apply below_alloc | apply pw_below_drewN | apply below_drew1 | refine below_set ?_ GE198.out | refine below_set ?_ GE215.out) | exact HB.out)⟩⟩
                                            · rw [if_neg c45] at H
                                              have c45b0 : (t214 == 0) = false := beq_eq_false_iff_ne.mpr c45
                                              have c45b1 : (t214 != 0) = true := bne_iff_ne.mpr c45
                                              (first | rw [c45b0] | (simp only [i64_w, i32_w]; rw [c45b0]) | skip)
                                              as_aux_lemma =>
                                                have H' := Aside0.mk H
                                                clear H
                                                go_wp2
                                                go_meet
                                                case rel => exact ⟨_, (true), (by first | rfl | (simp; done) | (simp [*]; done)), H', ⟨by have := HJ5.out; have := HK2.out; have := HJ15.out; have := HK4.out; have := HK5.out; have := HJ33.out; first | omega | exact Nat.le_refl _⟩, ⟨by (with_reducible repeat (first | apply Kd.R_alloc | apply Kd.R_drewN | apply Kd.R_drew)); exact Kd.R_mono (Kd.R_far (p := ⟨gb215, 3, none⟩) (Kd.R_far (p := ⟨gb215, 2, none⟩) (Kd.R_far (p := ⟨gb215, 1, none⟩) (Kd.R_far (p := ⟨gb215, 0, none⟩) (Kd.R_types HO_14.out BK215.out (by decide)) (fun _ hk => hk.2) (.int .i64 t210)) (fun _ hk => hk.2) (.int .i64 t211)) (fun _ hk => hk.2) (.int .i64 t212)) (fun _ hk => hk.2) (.int .i64 t213)) (fun _ hk => trivial)⟩, ⟨by (with_reducible repeat (first | refine blk_drewN ?_ _ | refine blk_drew ?_ | refine blk_alloc ?_ _)); refine blk_far ?_ NB198_215.out _; (with_reducible repeat (first | refine blk_drewN ?_ _ | refine blk_drew ?_ | refine blk_alloc ?_ _)); refine blk_far ?_ NB198_215.out _; (with_reducible repeat (first | refine blk_drewN ?_ _ | refine blk_drew ?_ | refine blk_alloc ?_ _)); refine blk_far ?_ NB198_215.out _; (with_reducible repeat (first | refine blk_drewN ?_ _ | refine blk_drew ?_ | refine blk_alloc ?_ _)); refine blk_far ?_ NB198_215.out _; (with_reducible repeat (first | refine blk_drewN ?_ _ | refine blk_drew ?_ | refine blk_alloc ?_ _)); exact BK198.out⟩, ⟨by (with_reducible repeat (first | refine blk_drewN ?_ _ | refine blk_drew ?_ | refine blk_alloc ?_ _)); refine blk_put (cs := #[.int .i64 t210, .int .i64 t211, .int .i64 t212, .int .i64 0]) ?_ 3 _ rfl; (with_reducible repeat (first | refine blk_drewN ?_ _ | refine blk_drew ?_ | refine blk_alloc ?_ _)); refine blk_put (cs := #[.int .i64 t210, .int .i64 t211, .int .i64 0, .int .i64 0]) ?_ 2 _ rfl; (with_reducible repeat (first | refine blk_drewN ?_ _ | refine blk_drew ?_ | refine blk_alloc ?_ _)); refine blk_put (cs := #[.int .i64 t210, .int .i64 0, .int .i64 0, .int .i64 0]) ?_ 1 _ rfl; (with_reducible repeat (first | refine blk_drewN ?_ _ | refine blk_drew ?_ | refine blk_alloc ?_ _)); refine blk_put (cs := #[.int .i64 0, .int .i64 0, .int .i64 0, .int .i64 0]) ?_ 0 _ rfl; (with_reducible repeat (first | refine blk_drewN ?_ _ | refine blk_drew ?_ | refine blk_alloc ?_ _)); exact BK215.out⟩, ⟨by repeat (first | (with_reducible first | exact HB.out | apply below_alloc | apply pw_below_drewN | apply below_drew1 | refine below_set ?_ GE198.out | refine below_set ?_ GE215.out) | exact HB.out)⟩⟩
                                          case rest =>
                                            clear HC39
                                            try clear c1
                                            try clear c2
                                            try clear p2
                                            try clear c3
                                            try clear c4
                                            try clear c5
                                            try clear c6
                                            try clear p6
                                            try clear c8
                                            try clear c11
                                            try clear c12
                                            try clear c13
                                            try clear c13b0
                                            try clear c15
                                            try clear c15b0
                                            try clear c15b1
                                            try clear c16
                                            try clear c18
                                            try clear c19
                                            try clear c19b0
                                            try clear c20
                                            try clear c20b0
                                            try clear c21
                                            try clear c21b0
                                            try clear c22
                                            try clear c22b0
                                            try clear c23
                                            try clear c25
                                            try clear c25b0
                                            try clear c25b1
                                            try clear c26
                                            try clear c26b0
                                            try clear c26b1
                                            try clear c29
                                            try clear c29b0
                                            try clear c32
                                            try clear c32b0
                                            try clear c36
                                            try clear c36b0
                                            try clear c37
                                            try clear c39
                                            try clear c43
                                            try clear c45
                                            try clear c45b0
                                            try clear c45b1
                                            try clear c46
                                            try clear c46b0
                                            try clear c47
                                            try clear c49
                                            try clear c49b0
                                            try clear c50
                                            try clear c52
                                            try clear c52b0
                                            try clear c53
                                            try clear c55
                                            try clear c55b0
                                            try clear c56
                                            try clear c58
                                            try clear c58b0
                                            try clear c59
                                            try clear c61
                                            try clear c61b0
                                            try clear c62
                                            try clear c64
                                            try clear c64b0
                                            try clear p64
                                            try clear c65
                                            try clear c67
                                            try clear hcz17_0
                                            try clear hcz17_1
                                            try clear hcz17_2
                                            try clear hcz17_3
                                            try clear hcz31_0
                                            try clear hcz31_1
                                            try clear hcz31_2
                                            try clear hcz31_3
                                            try clear hcz35_0
                                            try clear hcz35_1
                                            try clear hcz35_2
                                            try clear hcz35_3
                                            try clear hcz37_0
                                            try clear hcz37_1
                                            try clear hcz37_2
                                            try clear hcz37_3
                                            try clear hcz40_0
                                            try clear hcz40_1
                                            try clear hcz40_2
                                            try clear hcz40_3
                                            try clear hcz44_0
                                            try clear hcz44_1
                                            try clear hcz44_2
                                            try clear hcz44_3
                                            try clear hcz48_0
                                            try clear hcz48_1
                                            try clear hcz48_2
                                            try clear hcz48_3
                                            try clear hcz51_0
                                            try clear hcz51_1
                                            try clear hcz51_2
                                            try clear hcz51_3
                                            try clear hcz54_0
                                            try clear hcz54_1
                                            try clear hcz54_2
                                            try clear hcz54_3
                                            try clear hcz57_0
                                            try clear hcz57_1
                                            try clear hcz57_2
                                            try clear hcz57_3
                                            try clear hcz60_0
                                            try clear hcz60_1
                                            try clear hcz60_2
                                            try clear hcz60_3
                                            try clear hcz63_0
                                            try clear hcz63_1
                                            try clear hcz63_2
                                            try clear hcz63_3
                                            try clear hcz66_0
                                            try clear hcz66_1
                                            try clear hcz66_2
                                            try clear hcz66_3
                                            try clear hcz68_0
                                            try clear hcz68_1
                                            try clear hcz68_2
                                            try clear hcz68_3
                                            try clear hcz9_0
                                            try clear hcz9_1
                                            try clear hcz9_2
                                            try clear hcz9_3
                                            try clear hfz17_0
                                            try clear hfz17_1
                                            try clear hfz17_2
                                            try clear hfz17_3
                                            try clear hfz31_0
                                            try clear hfz31_1
                                            try clear hfz31_2
                                            try clear hfz31_3
                                            try clear hfz35_0
                                            try clear hfz35_1
                                            try clear hfz35_2
                                            try clear hfz35_3
                                            try clear hfz37_0
                                            try clear hfz37_1
                                            try clear hfz37_2
                                            try clear hfz37_3
                                            try clear hfz40_0
                                            try clear hfz40_1
                                            try clear hfz40_2
                                            try clear hfz40_3
                                            try clear hfz44_0
                                            try clear hfz44_1
                                            try clear hfz44_2
                                            try clear hfz44_3
                                            try clear hfz48_0
                                            try clear hfz48_1
                                            try clear hfz48_2
                                            try clear hfz48_3
                                            try clear hfz51_0
                                            try clear hfz51_1
                                            try clear hfz51_2
                                            try clear hfz51_3
                                            try clear hfz54_0
                                            try clear hfz54_1
                                            try clear hfz54_2
                                            try clear hfz54_3
                                            try clear hfz57_0
                                            try clear hfz57_1
                                            try clear hfz57_2
                                            try clear hfz57_3
                                            try clear hfz60_0
                                            try clear hfz60_1
                                            try clear hfz60_2
                                            try clear hfz60_3
                                            try clear hfz63_0
                                            try clear hfz63_1
                                            try clear hfz63_2
                                            try clear hfz63_3
                                            try clear hfz66_0
                                            try clear hfz66_1
                                            try clear hfz66_2
                                            try clear hfz66_3
                                            try clear hfz68_0
                                            try clear hfz68_1
                                            try clear hfz68_2
                                            try clear hfz68_3
                                            try clear hfz9_0
                                            try clear hfz9_1
                                            try clear hfz9_2
                                            try clear hfz9_3
                                            try clear p2
                                            try clear p6
                                            obtain ⟨kq, x183_38, rfl, HA, HJ38, HO_14, BK198, BK215, HB⟩ := hcut
                                            cases kq with
                                            | zero => exact absurd HA.out (by simp [dailieslaw06_PlaneTiled.j6])
                                            | succ kj38 =>
                                              have H := HA.out
                                              clear HA
                                              simp only [dailieslaw06_PlaneTiled.j6] at H
                                              by_cases c69 : x183_38 = true
                                              · subst c69
                                                have H1 : (some false) = some r := by rw [if_pos rfl] at H; exact H
                                                clear H
                                                have H := H1
                                                clear H1
                                                as_aux_lemma =>
                                                  obtain rfl := Option.some.inj H
                                                  go_wp2
                                                  go_ret
                                                  exact ⟨by first | rfl | (simp [errW_none, errW_some] <;> rfl) | (simp only [← hji24]; first | rfl | (simp [errW_none, errW_some] <;> rfl)) | (simp [*, errW_none, errW_some] <;> rfl), by repeat (first | (with_reducible first | exact HB.out | apply below_alloc | apply pw_below_drewN | apply below_drew1 | refine below_set ?_ GE198.out | refine below_set ?_ GE215.out) | exact HB.out)⟩
                                              · replace c69 := Bool.eq_false_iff.mpr c69
                                                subst c69
                                                have H1 : (dailieslaw06_PlaneTiled.l3 kj38 l1 l2 t200 x10_2 t202 t203 x14_5 (wrap64 (x15_4 + 1)) x16_4 (wrap64 (1 + t208)) x19_5 x20_33 0 a0_0 a0_1 a0_2 a0_3 t210 t211 t212 t213) = some r := by rw [if_neg (show ¬ (false = true) by decide)] at H; exact H
                                                clear H
                                                have H := H1
                                                clear H1
                                                have H' := Aside0.mk H
                                                clear H
                                                go_wp2
                                                go_loopg [23] kj38 (fun kq v23 w' => ∃ (x14_8 : List Int) (x23_8 : Int), v23 = .int .i64 x23_8 ∧ Aside0 (dailieslaw06_PlaneTiled.l3 kq l1 l2 t200 x10_2 t202 t203 x14_8 (wrap64 (x15_4 + 1)) x16_4 (wrap64 (1 + t208)) x19_5 x20_33 x23_8 a0_0 a0_1 a0_2 a0_3 t210 t211 t212 t213 = some r) ∧ Aside0 (kq ≤ kj38) ∧ Aside0 (Kd.R (Kd.int .i64) 3 w' w.heap.size (fun _ => True) v206 x14_8) ∧ Aside0 (w'.heap[gb198]? = some (.cells #[.int .i64 a0_0, .int .i64 a0_1, .int .i64 a0_2, .bool a0_3] 26 (0, 0))) ∧ Aside0 (w'.heap[gb215]? = some (.cells #[.int .i64 t210, .int .i64 t211, .int .i64 t212, .int .i64 t213] 52 (0, 0))) ∧ Aside0 (Below w.heap.size w w'))
                                                case atStart => exact ⟨(x14_5), (0), (by first | rfl | (simp; done) | (simp [*]; done)), H', ⟨Nat.le_refl _⟩, ⟨by (with_reducible repeat (first | apply Kd.R_alloc | apply Kd.R_drewN | apply Kd.R_drew)); exact HO_14.out⟩, ⟨by (with_reducible repeat (first | refine blk_drewN ?_ _ | refine blk_drew ?_ | refine blk_alloc ?_ _)); exact BK198.out⟩, ⟨by (with_reducible repeat (first | refine blk_drewN ?_ _ | refine blk_drew ?_ | refine blk_alloc ?_ _)); exact BK215.out⟩, ⟨by repeat (first | (with_reducible first | exact HB.out | apply below_alloc | apply pw_below_drewN | apply below_drew1 | refine below_set ?_ GE198.out | refine below_set ?_ GE215.out) | exact HB.out)⟩⟩
                                                case round =>
                                                  clear H'
                                                  try clear c1
                                                  try clear c2
                                                  try clear p2
                                                  try clear c3
                                                  try clear c4
                                                  try clear c5
                                                  try clear c6
                                                  try clear p6
                                                  try clear c8
                                                  try clear c11
                                                  try clear c12
                                                  try clear c13
                                                  try clear c13b0
                                                  try clear c15
                                                  try clear c15b0
                                                  try clear c15b1
                                                  try clear c16
                                                  try clear c18
                                                  try clear c19
                                                  try clear c19b0
                                                  try clear c20
                                                  try clear c20b0
                                                  try clear c21
                                                  try clear c21b0
                                                  try clear c22
                                                  try clear c22b0
                                                  try clear c23
                                                  try clear c25
                                                  try clear c25b0
                                                  try clear c25b1
                                                  try clear c26
                                                  try clear c26b0
                                                  try clear c26b1
                                                  try clear c29
                                                  try clear c29b0
                                                  try clear c32
                                                  try clear c32b0
                                                  try clear c36
                                                  try clear c36b0
                                                  try clear c37
                                                  try clear c39
                                                  try clear c43
                                                  try clear c45
                                                  try clear c45b0
                                                  try clear c45b1
                                                  try clear c46
                                                  try clear c46b0
                                                  try clear c47
                                                  try clear c49
                                                  try clear c49b0
                                                  try clear c50
                                                  try clear c52
                                                  try clear c52b0
                                                  try clear c53
                                                  try clear c55
                                                  try clear c55b0
                                                  try clear c56
                                                  try clear c58
                                                  try clear c58b0
                                                  try clear c59
                                                  try clear c61
                                                  try clear c61b0
                                                  try clear c62
                                                  try clear c64
                                                  try clear c64b0
                                                  try clear p64
                                                  try clear c65
                                                  try clear c67
                                                  try clear c69
                                                  try clear hcz17_0
                                                  try clear hcz17_1
                                                  try clear hcz17_2
                                                  try clear hcz17_3
                                                  try clear hcz31_0
                                                  try clear hcz31_1
                                                  try clear hcz31_2
                                                  try clear hcz31_3
                                                  try clear hcz35_0
                                                  try clear hcz35_1
                                                  try clear hcz35_2
                                                  try clear hcz35_3
                                                  try clear hcz37_0
                                                  try clear hcz37_1
                                                  try clear hcz37_2
                                                  try clear hcz37_3
                                                  try clear hcz40_0
                                                  try clear hcz40_1
                                                  try clear hcz40_2
                                                  try clear hcz40_3
                                                  try clear hcz44_0
                                                  try clear hcz44_1
                                                  try clear hcz44_2
                                                  try clear hcz44_3
                                                  try clear hcz48_0
                                                  try clear hcz48_1
                                                  try clear hcz48_2
                                                  try clear hcz48_3
                                                  try clear hcz51_0
                                                  try clear hcz51_1
                                                  try clear hcz51_2
                                                  try clear hcz51_3
                                                  try clear hcz54_0
                                                  try clear hcz54_1
                                                  try clear hcz54_2
                                                  try clear hcz54_3
                                                  try clear hcz57_0
                                                  try clear hcz57_1
                                                  try clear hcz57_2
                                                  try clear hcz57_3
                                                  try clear hcz60_0
                                                  try clear hcz60_1
                                                  try clear hcz60_2
                                                  try clear hcz60_3
                                                  try clear hcz63_0
                                                  try clear hcz63_1
                                                  try clear hcz63_2
                                                  try clear hcz63_3
                                                  try clear hcz66_0
                                                  try clear hcz66_1
                                                  try clear hcz66_2
                                                  try clear hcz66_3
                                                  try clear hcz68_0
                                                  try clear hcz68_1
                                                  try clear hcz68_2
                                                  try clear hcz68_3
                                                  try clear hcz9_0
                                                  try clear hcz9_1
                                                  try clear hcz9_2
                                                  try clear hcz9_3
                                                  try clear hfz17_0
                                                  try clear hfz17_1
                                                  try clear hfz17_2
                                                  try clear hfz17_3
                                                  try clear hfz31_0
                                                  try clear hfz31_1
                                                  try clear hfz31_2
                                                  try clear hfz31_3
                                                  try clear hfz35_0
                                                  try clear hfz35_1
                                                  try clear hfz35_2
                                                  try clear hfz35_3
                                                  try clear hfz37_0
                                                  try clear hfz37_1
                                                  try clear hfz37_2
                                                  try clear hfz37_3
                                                  try clear hfz40_0
                                                  try clear hfz40_1
                                                  try clear hfz40_2
                                                  try clear hfz40_3
                                                  try clear hfz44_0
                                                  try clear hfz44_1
                                                  try clear hfz44_2
                                                  try clear hfz44_3
                                                  try clear hfz48_0
                                                  try clear hfz48_1
                                                  try clear hfz48_2
                                                  try clear hfz48_3
                                                  try clear hfz51_0
                                                  try clear hfz51_1
                                                  try clear hfz51_2
                                                  try clear hfz51_3
                                                  try clear hfz54_0
                                                  try clear hfz54_1
                                                  try clear hfz54_2
                                                  try clear hfz54_3
                                                  try clear hfz57_0
                                                  try clear hfz57_1
                                                  try clear hfz57_2
                                                  try clear hfz57_3
                                                  try clear hfz60_0
                                                  try clear hfz60_1
                                                  try clear hfz60_2
                                                  try clear hfz60_3
                                                  try clear hfz63_0
                                                  try clear hfz63_1
                                                  try clear hfz63_2
                                                  try clear hfz63_3
                                                  try clear hfz66_0
                                                  try clear hfz66_1
                                                  try clear hfz66_2
                                                  try clear hfz66_3
                                                  try clear hfz68_0
                                                  try clear hfz68_1
                                                  try clear hfz68_2
                                                  try clear hfz68_3
                                                  try clear hfz9_0
                                                  try clear hfz9_1
                                                  try clear hfz9_2
                                                  try clear hfz9_3
                                                  try clear p2
                                                  try clear p6
                                                  try clear p64
                                                  obtain ⟨x14_8, x23_8, rfl, HA, HK8, HO_14, BK198, BK215, HB⟩ := hrel
                                                  cases gk with
                                                  | zero => exact absurd HA.out (by simp [dailieslaw06_PlaneTiled.l3])
                                                  | succ k8 =>
                                                    have H := HA.out
                                                    clear HA
                                                    simp only [dailieslaw06_PlaneTiled.l3] at H
                                                    by_cases c70 : x23_8 < (wrap64 (t212 * t213))
                                                    · rw [if_pos c70] at H
                                                      have c70b0 : decide (x23_8 < (wrap64 (t212 * t213))) = true := decide_eq_true c70
                                                      clear c70
                                                      by_cases c71 : t212 = 0
                                                      · rw [if_pos c71] at H
                                                        exact absurd H (by simp)
                                                      · rw [if_neg c71] at H
                                                        have c71b0 : (t212 == 0) = false := beq_eq_false_iff_ne.mpr c71
                                                        have c71b1 : (t212 != 0) = true := bne_iff_ne.mpr c71
                                                        obtain ⟨ji72, hji72⟩ : ∃ j_ : Int, (wrap64 ((wrap64 ((wrap64 ((wrap64 (t211 + (wrap64 (Int.tdiv x23_8 t212)))) * t202)) + t210)) + (Int.tmod x23_8 t212))) = j_ := ⟨_, rfl⟩
                                                        replace H : (if 0 ≤ (ji72) then (if (ji72) < (x14_8.length : Int) then (dailieslaw06_PlaneTiled.l3 k8 l1 l2 t200 x10_2 t202 t203 (x14_8.set ((ji72) : Int).toNat (wrap64 ((rd x14_8 (ji72)) + 1))) (wrap64 (x15_4 + 1)) x16_4 (wrap64 (1 + t208)) x19_5 x20_33 (wrap64 (x23_8 + 1)) a0_0 a0_1 a0_2 a0_3 t210 t211 t212 t213) else (none)) else (none)) = some r := by first | (rw [hji72] at H; exact H) | (simp only [hji72] at H ⊢; exact H)
                                                        have hji72w : (IntKind.i64.wrap ((wrap64 ((wrap64 ((wrap64 (t211 + (wrap64 (Int.tdiv x23_8 t212)))) * t202)) + t210)) + (Int.tmod x23_8 t212))) = ji72 := (i64_w _).trans hji72
                                                        by_cases c73 : 0 ≤ (ji72)
                                                        · rw [if_pos c73] at H
                                                          have c73b0 : decide (0 ≤ (ji72)) = true := decide_eq_true c73
                                                          clear c73
                                                          by_cases c74 : (ji72) < (x14_8.length : Int)
                                                          · rw [if_pos c74] at H
                                                            have c74b0 : decide ((ji72) < (x14_8.length : Int)) = true := decide_eq_true c74
                                                            clear c74
                                                            obtain ⟨y217, hy217⟩ : ∃ y_ : List Int, y_ = (x14_8.set ((ji72) : Int).toNat (wrap64 ((rd x14_8 (ji72)) + 1))) := ⟨_, rfl⟩
                                                            replace H : (dailieslaw06_PlaneTiled.l3 k8 l1 l2 t200 x10_2 t202 t203 y217 (wrap64 (x15_4 + 1)) x16_4 (wrap64 (1 + t208)) x19_5 x20_33 (wrap64 (x23_8 + 1)) a0_0 a0_1 a0_2 a0_3 t210 t211 t212 t213) = some r := by first | (rw [hy217]; with_reducible exact H) | (have H2_ := (Option.bind_some _ _).symm.trans H; rw [hy217]; with_reducible exact H2_) | (have H2_ := (Option.bind_some _ _).symm.trans H; with_reducible exact H2_) | with_reducible exact H | (rw [hy217]; exact H) | exact H
                                                            have Ny217 := Aside0.mk hy217
                                                            clear hy217
                                                            as_aux_lemma =>
                                                              have H' := Aside0.mk H
                                                              clear H
                                                              have hnb76 := NB215_198.out
                                                              have hnc76 := NB198_215.out
                                                              have hcz77_0 : wr.cell? ⟨gb215, 0, none⟩ = some (.int .i64 t210) := (blk_cell BK215.out 0).trans rfl
                                                              have hcz77_1 : wr.cell? ⟨gb215, 1, none⟩ = some (.int .i64 t211) := (blk_cell BK215.out 1).trans rfl
                                                              have hcz77_2 : wr.cell? ⟨gb215, 2, none⟩ = some (.int .i64 t212) := (blk_cell BK215.out 2).trans rfl
                                                              have hcz77_3 : wr.cell? ⟨gb215, 3, none⟩ = some (.int .i64 t213) := (blk_cell BK215.out 3).trans rfl
                                                              have hfz77_0 := blk_frozen BK215.out 0
                                                              have hfz77_1 := blk_frozen BK215.out 1
                                                              have hfz77_2 := blk_frozen BK215.out 2
                                                              have hfz77_3 := blk_frozen BK215.out 3
                                                              try go_wp2
                                                              have n0_ := Aside0.mk (Kd.R_drew HO_14.out)
                                                              have n1_ := Aside0.mk (blk_drew BK198.out)
                                                              have n2_ := Aside0.mk (blk_drew BK215.out)
                                                              have n3_ := Aside0.mk (below_drew1 HB.out)
                                                              clear HO_14
                                                              clear BK198
                                                              clear BK215
                                                              clear HB
                                                              have HO_14 := n0_
                                                              have BK198 := n1_
                                                              have BK215 := n2_
                                                              have HB := n3_
                                                              clear n0_ n1_ n2_ n3_
                                                              obtain ⟨Ao79, co79, eo79⟩ := Kd.R_slice HO_14.out
                                                              (first | subst eo79 | (injection eo79 with f1_ f2_ f3_; have f4_ := f1_.symm; have f5_ := f3_.symm; clear f1_ f2_ f3_; subst f4_; subst f5_))
                                                              have p216 : 0 ≤ ((ji72) : Int) := of_decide_eq_true (by first | (with_reducible assumption) | assumption)
                                                              have q216 : (ji72) < (x14_8.length : Int) := of_decide_eq_true (by first | (with_reducible assumption) | assumption)
                                                              obtain ⟨ad216, e216, hx216_0⟩ := Kd.at_int (Kd.R_reads' HO_14.out).2.2 (ji72) p216 q216
                                                              cases e216
                                                              replace p216 := eq_true p216
                                                              replace q216 := eq_true q216
                                                              have p75 : 0 ≤ ((ji72) : Int) := of_decide_eq_true (by first | (with_reducible assumption) | assumption)
                                                              have q75 : ((ji72) : Int) < ((x14_8.length : Int) : Int) := of_decide_eq_true (by first | (with_reducible assumption) | assumption)
                                                              obtain ⟨go75, co75, eo75, gb75, gl75, cl75, HG75⟩ := Kd.R_form HO_14.out (by omega)
                                                              (first | cases eo75 | (injection eo75 with ea_ en_ ec_; (first | subst ea_ | (injection ea_ with ea_; subst ea_)); subst ec_; clear en_))
                                                              have GB75 := Aside0.mk gb75
                                                              have GG75 := Aside0.mk HG75
                                                              clear gb75 gl75 HG75
                                                              (first | simp only [add_plain] at hx216_0 | skip)
                                                              obtain ⟨hx75_0, hf75_0⟩ := Kd.R_celln 0 HO_14.out ((ji72) : Int) p75 q75
                                                              replace p75 := eq_true p75
                                                              replace q75 := eq_true q75
                                                              have HP80 := Kd.R_putn HO_14.out ((ji72) : Int) (wrap64 ((rd x14_8 (ji72)) + 1))
                                                              rw [← Ny217.out] at HP80
                                                              have HQ80 := Aside0.mk HP80
                                                              clear HP80
                                                              refine start_ (n := 23) (S := fun w' => w'.cell? ⟨gb215, 0, none⟩ = some (.int .i64 t210) ∧ w'.cell? ⟨gb215, 1, none⟩ = some (.int .i64 t211) ∧ w'.cell? ⟨gb215, 2, none⟩ = some (.int .i64 t212) ∧ w'.cell? ⟨gb215, 3, none⟩ = some (.int .i64 t213) ∧ w'.cell? ⟨go75, ((ji72)).toNat, none⟩ = some (.int .i64 (rd x14_8 (ji72)))) (ds := [22]) #[false, false, false, false, false, false, false, false, false, false, false, false, false, false, false, false, false, false, false, false, false, false, false] (by kernel_rfl) rfl rfl ⟨(blk_cell BK215.out 0).trans rfl, (blk_cell BK215.out 1).trans rfl, (blk_cell BK215.out 2).trans rfl, (blk_cell BK215.out 3).trans rfl, hx216_0⟩ (fun hHeld => ?_); refine with_tabW dailieslaw06_PlaneTiled.tab32 dailieslaw06_PlaneTiled.bits32 (fun HT_ HW_ => ?_)
                                                              generalize wr.drew = w78 at HO_14 BK198 BK215 HB GG75 HQ80 hf75_0 hx216_0 hx75_0 hHeld ⊢
                                                              refine pure_ (i := 0) (N := some 193) (v := ?_) (a' := ?_) #[true, false, false, false, false, false, false, false, false, false, false, false, false, false, false, false, false, false, false, false, false, false, false] rfl rfl (any_of HT_.out (by kernel_rfl)) (fun _ _ _ h => h) (Or.inl ⟨by rfl, ?_⟩) ?_ ?_
                                                              rotate_left
                                                              · intro w'
                                                                go_simp
                                                                with_reducible rfl
                                                              rotate_left
                                                              · simp only [Act.put, List.setIfInBounds_toArray, List.set_cons_zero, List.set_cons_succ, i64_w, i32_w]
                                                                rfl
                                                              refine pure_ (i := 1) (N := some 194) (v := ?_) (a' := ?_) #[true, true, false, false, false, false, false, false, false, false, false, false, false, false, false, false, false, false, false, false, false, false, false] rfl rfl (any_of HT_.out (by kernel_rfl)) (fun _ _ _ h => h) (Or.inl ⟨by rfl, ?_⟩) ?_ ?_
                                                              rotate_left
                                                              · intro w'
                                                                go_simp
                                                                with_reducible rfl
                                                              rotate_left
                                                              · simp only [Act.put, List.setIfInBounds_toArray, List.set_cons_zero, List.set_cons_succ, i64_w, i32_w]
                                                                rfl
                                                              refine pure_ (i := 3) (N := some 196) (v := ?_) (a' := ?_) #[true, true, false, true, false, false, false, false, false, false, false, false, false, false, false, false, false, false, false, false, false, false, false] rfl rfl (any_of HT_.out (by kernel_rfl)) (fun _ _ _ h => h) (Or.inl ⟨by rfl, ?_⟩) ?_ ?_
                                                              rotate_left
                                                              · intro w'
                                                                go_simp
                                                                with_reducible rfl
                                                              rotate_left
                                                              · simp only [Act.put, List.setIfInBounds_toArray, List.set_cons_zero, List.set_cons_succ, i64_w, i32_w]
                                                                rfl
                                                              refine pure_ (i := 4) (N := some 197) (v := ?_) (a' := ?_) #[true, true, false, true, true, false, false, false, false, false, false, false, false, false, false, false, false, false, false, false, false, false, false] rfl rfl (any_of HT_.out (by kernel_rfl)) (fun _ _ _ h => h) (Or.inl ⟨by rfl, ?_⟩) ?_ ?_
                                                              rotate_left
                                                              · intro w'
                                                                go_simp
                                                                with_reducible rfl
                                                              rotate_left
                                                              · simp only [Act.put, List.setIfInBounds_toArray, List.set_cons_zero, List.set_cons_succ, i64_w, i32_w]
                                                                rfl
                                                              refine pure_ (i := 8) (N := some 201) (v := ?_) (a' := ?_) #[true, true, false, true, true, false, false, false, true, false, false, false, false, false, false, false, false, false, false, false, false, false, false] rfl rfl (any_of HT_.out (by kernel_rfl)) (fun _ _ _ h => h) (Or.inl ⟨by rfl, ?_⟩) ?_ ?_
                                                              rotate_left
                                                              · intro w'
                                                                go_simp
                                                                with_reducible rfl
                                                              rotate_left
                                                              · simp only [Act.put, List.setIfInBounds_toArray, List.set_cons_zero, List.set_cons_succ, i64_w, i32_w]
                                                                rfl
                                                              refine pure_ (i := 10) (N := some 203) (v := ?_) (a' := ?_) #[true, true, false, true, true, false, false, false, true, false, true, false, false, false, false, false, false, false, false, false, false, false, false] rfl rfl (any_of HT_.out (by kernel_rfl)) (fun _ _ _ h => h) (Or.inl ⟨by rfl, ?_⟩) ?_ ?_
                                                              rotate_left
                                                              · intro w'
                                                                go_simp
                                                                with_reducible rfl
                                                              rotate_left
                                                              · simp only [Act.put, List.setIfInBounds_toArray, List.set_cons_zero, List.set_cons_succ, i64_w, i32_w]
                                                                rfl
                                                              refine pure_ (i := 13) (N := some 206) (v := ?_) (a' := ?_) #[true, true, false, true, true, false, false, false, true, false, true, false, false, true, false, false, false, false, false, false, false, false, false] rfl rfl (any_of HT_.out (by kernel_rfl)) (fun _ _ _ h => h) (Or.inl ⟨by rfl, ?_⟩) ?_ ?_
                                                              rotate_left
                                                              · intro w'
                                                                go_simp
                                                                with_reducible rfl
                                                              rotate_left
                                                              · simp only [Act.put, List.setIfInBounds_toArray, List.set_cons_zero, List.set_cons_succ, i64_w, i32_w]
                                                                rfl
                                                              refine pure_ (i := 14) (N := some 207) (v := ?_) (a' := ?_) #[true, true, false, true, true, false, false, false, true, false, true, false, false, true, true, false, false, false, false, false, false, false, false] rfl rfl (any_of HT_.out (by kernel_rfl)) (fun _ _ _ h => h) (Or.inl ⟨by rfl, ?_⟩) ?_ ?_
                                                              rotate_left
                                                              · intro w'
                                                                go_simp
                                                                with_reducible rfl
                                                              rotate_left
                                                              · simp only [Act.put, List.setIfInBounds_toArray, List.set_cons_zero, List.set_cons_succ, i64_w, i32_w]
                                                                rfl
                                                              refine take_ (i := 2) (N := some 195) (v := ?_) (a' := ?_) #[true, true, true, true, true, false, false, false, true, false, true, false, false, true, true, false, false, false, false, false, false, false, false] rfl rfl (take_ofW HT_.out HW_.out (by kernel_rfl)) (fun _ _ _ h => h) (Or.inl ⟨by rfl, ?_⟩) hHeld ?_ ?_
                                                              rotate_left
                                                              · rintro w' ⟨s0, s1, s2, s3, s4⟩
                                                                go_simp
                                                                with_reducible rfl
                                                              rotate_left
                                                              · simp only [Act.put, List.setIfInBounds_toArray, List.set_cons_zero, List.set_cons_succ, i64_w, i32_w]
                                                                rfl
                                                              refine take_ (i := 5) (N := some 198) (v := ?_) (a' := ?_) #[true, true, true, true, true, true, false, false, true, false, true, false, false, true, true, false, false, false, false, false, false, false, false] rfl rfl (take_ofW HT_.out HW_.out (by kernel_rfl)) (fun _ _ _ h => h) (Or.inl ⟨by rfl, ?_⟩) hHeld ?_ ?_
                                                              rotate_left
                                                              · rintro w' ⟨s0, s1, s2, s3, s4⟩
                                                                go_simp
                                                                with_reducible rfl
                                                              rotate_left
                                                              · simp only [Act.put, List.setIfInBounds_toArray, List.set_cons_zero, List.set_cons_succ, i64_w, i32_w]
                                                                rfl
                                                              refine pure_ (i := 6) (N := some 199) (v := ?_) (a' := ?_) #[true, true, true, true, true, true, true, false, true, false, true, false, false, true, true, false, false, false, false, false, false, false, false] rfl rfl (any_of HT_.out (by kernel_rfl)) (fun _ _ _ h => h) (Or.inl ⟨by rfl, ?_⟩) ?_ ?_
                                                              rotate_left
                                                              · intro w'
                                                                go_simp
                                                                with_reducible rfl
                                                              rotate_left
                                                              · simp only [Act.put, List.setIfInBounds_toArray, List.set_cons_zero, List.set_cons_succ, i64_w, i32_w]
                                                                rfl
                                                              refine pure_ (i := 7) (N := some 200) (v := ?_) (a' := ?_) #[true, true, true, true, true, true, true, true, true, false, true, false, false, true, true, false, false, false, false, false, false, false, false] rfl rfl (any_of HT_.out (by kernel_rfl)) (fun _ _ _ h => h) (Or.inl ⟨by rfl, ?_⟩) ?_ ?_
                                                              rotate_left
                                                              · intro w'
                                                                go_simp
                                                                with_reducible rfl
                                                              rotate_left
                                                              · simp only [Act.put, List.setIfInBounds_toArray, List.set_cons_zero, List.set_cons_succ, i64_w, i32_w]
                                                                rfl
                                                              refine pure_ (i := 9) (N := some 202) (v := ?_) (a' := ?_) #[true, true, true, true, true, true, true, true, true, true, true, false, false, true, true, false, false, false, false, false, false, false, false] rfl rfl (any_of HT_.out (by kernel_rfl)) (fun _ _ _ h => h) (Or.inl ⟨by rfl, ?_⟩) ?_ ?_
                                                              rotate_left
                                                              · intro w'
                                                                go_simp
                                                                with_reducible rfl
                                                              rotate_left
                                                              · simp only [Act.put, List.setIfInBounds_toArray, List.set_cons_zero, List.set_cons_succ, i64_w, i32_w]
                                                                rfl
                                                              refine take_ (i := 11) (N := some 204) (v := ?_) (a' := ?_) #[true, true, true, true, true, true, true, true, true, true, true, true, false, true, true, false, false, false, false, false, false, false, false] rfl rfl (take_ofW HT_.out HW_.out (by kernel_rfl)) (fun _ _ _ h => h) (Or.inl ⟨by rfl, ?_⟩) hHeld ?_ ?_
                                                              rotate_left
                                                              · rintro w' ⟨s0, s1, s2, s3, s4⟩
                                                                go_simp
                                                                with_reducible rfl
                                                              rotate_left
                                                              · simp only [Act.put, List.setIfInBounds_toArray, List.set_cons_zero, List.set_cons_succ, i64_w, i32_w]
                                                                rfl
                                                              refine pure_ (i := 12) (N := some 205) (v := ?_) (a' := ?_) #[true, true, true, true, true, true, true, true, true, true, true, true, true, true, true, false, false, false, false, false, false, false, false] rfl rfl (any_of HT_.out (by kernel_rfl)) (fun _ _ _ h => h) (Or.inl ⟨by rfl, ?_⟩) ?_ ?_
                                                              rotate_left
                                                              · intro w'
                                                                go_simp
                                                                with_reducible rfl
                                                              rotate_left
                                                              · simp only [Act.put, List.setIfInBounds_toArray, List.set_cons_zero, List.set_cons_succ, i64_w, i32_w]
                                                                rfl
                                                              refine take_ (i := 15) (N := some 208) (v := ?_) (a' := ?_) #[true, true, true, true, true, true, true, true, true, true, true, true, true, true, true, true, false, false, false, false, false, false, false] rfl rfl (take_ofW HT_.out HW_.out (by kernel_rfl)) (fun _ _ _ h => h) (Or.inl ⟨by rfl, ?_⟩) hHeld ?_ ?_
                                                              rotate_left
                                                              · rintro w' ⟨s0, s1, s2, s3, s4⟩
                                                                go_simp
                                                                with_reducible rfl
                                                              rotate_left
                                                              · simp only [Act.put, List.setIfInBounds_toArray, List.set_cons_zero, List.set_cons_succ, i64_w, i32_w]
                                                                rfl
                                                              refine pure_ (i := 16) (N := some 209) (v := ?_) (a' := ?_) #[true, true, true, true, true, true, true, true, true, true, true, true, true, true, true, true, true, false, false, false, false, false, false] rfl rfl (any_of HT_.out (by kernel_rfl)) (fun _ _ _ h => h) (Or.inl ⟨by rfl, ?_⟩) ?_ ?_
                                                              rotate_left
                                                              · intro w'
                                                                go_simp
                                                                with_reducible rfl
                                                              rotate_left
                                                              · simp only [Act.put, List.setIfInBounds_toArray, List.set_cons_zero, List.set_cons_succ, i64_w, i32_w]
                                                                rfl
                                                              refine pure_ (i := 17) (N := some 210) (v := ?_) (a' := ?_) #[true, true, true, true, true, true, true, true, true, true, true, true, true, true, true, true, true, true, false, false, false, false, false] rfl rfl (any_of HT_.out (by kernel_rfl)) (fun _ _ _ h => h) (Or.inl ⟨by rfl, ?_⟩) ?_ ?_
                                                              rotate_left
                                                              · intro w'
                                                                go_simp
                                                                with_reducible rfl
                                                              rotate_left
                                                              · simp only [Act.put, List.setIfInBounds_toArray, List.set_cons_zero, List.set_cons_succ, i64_w, i32_w]
                                                                rfl
                                                              refine pure_ (i := 18) (N := some 211) (v := ?_) (a' := ?_) #[true, true, true, true, true, true, true, true, true, true, true, true, true, true, true, true, true, true, true, false, false, false, false] rfl rfl (any_of HT_.out (by kernel_rfl)) (fun _ _ _ h => h) (Or.inl ⟨by rfl, ?_⟩) ?_ ?_
                                                              rotate_left
                                                              · intro w'
                                                                go_simp
                                                                with_reducible rfl
                                                              rotate_left
                                                              · simp only [Act.put, List.setIfInBounds_toArray, List.set_cons_zero, List.set_cons_succ, i64_w, i32_w]
                                                                rfl
                                                              refine take_ (i := 19) (N := some 212) (v := ?_) (a' := ?_) #[true, true, true, true, true, true, true, true, true, true, true, true, true, true, true, true, true, true, true, true, false, false, false] rfl rfl (take_ofW HT_.out HW_.out (by kernel_rfl)) (fun _ _ _ h => h) (Or.inl ⟨by rfl, ?_⟩) hHeld ?_ ?_
                                                              rotate_left
                                                              · rintro w' ⟨s0, s1, s2, s3, s4⟩
                                                                go_simp
                                                                with_reducible rfl
                                                              rotate_left
                                                              · simp only [Act.put, List.setIfInBounds_toArray, List.set_cons_zero, List.set_cons_succ, i64_w, i32_w]
                                                                rfl
                                                              refine pure_ (i := 20) (N := some 213) (v := ?_) (a' := ?_) #[true, true, true, true, true, true, true, true, true, true, true, true, true, true, true, true, true, true, true, true, true, false, false] rfl rfl (any_of HT_.out (by kernel_rfl)) (fun _ _ _ h => h) (Or.inl ⟨by rfl, ?_⟩) ?_ ?_
                                                              rotate_left
                                                              · intro w'
                                                                go_simp
                                                                with_reducible rfl
                                                              rotate_left
                                                              · simp only [Act.put, List.setIfInBounds_toArray, List.set_cons_zero, List.set_cons_succ, i64_w, i32_w]
                                                                rfl
                                                              refine pure_ (i := 21) (N := some 214) (v := ?_) (a' := ?_) #[true, true, true, true, true, true, true, true, true, true, true, true, true, true, true, true, true, true, true, true, true, true, false] rfl rfl (any_of HT_.out (by kernel_rfl)) (fun _ _ _ h => h) (Or.inl ⟨by rfl, ?_⟩) ?_ ?_
                                                              rotate_left
                                                              · intro w'
                                                                go_simp
                                                                with_reducible rfl
                                                              rotate_left
                                                              · simp only [Act.put, List.setIfInBounds_toArray, List.set_cons_zero, List.set_cons_succ, i64_w, i32_w]
                                                                rfl
                                                              refine last_ (i := 22) (N := none) #[true, true, true, true, true, true, true, true, true, true, true, true, true, true, true, true, true, true, true, true, true, true, true] rfl rfl (one_of HT_.out (by kernel_rfl)) (by decide) (fun K hK => ?_)
                                                              refine skip_ (w1 := ?_) (by rfl) rfl ?_ ?_
                                                              rotate_left
                                                              · go_simp
                                                                rfl
                                                              refine hK.out _ _ ?_
                                                              clear hK K
                                                              refine done_ (done_of HT_.out (by kernel_rfl)) ?_
                                                              try go_wp2
                                                              go_roundg k8
                                                              case measure => have := HJ5.out; have := HK2.out; have := HJ15.out; have := HK4.out; have := HK5.out; have := HJ33.out; have := HJ38.out; have := HK8.out; omega
                                                              case rel => exact ⟨(y217), (wrap64 (x23_8 + 1)), (by first | rfl | (simp; done) | (simp [*]; done)), H', ⟨by have := HJ5.out; have := HK2.out; have := HJ15.out; have := HK4.out; have := HK5.out; have := HJ33.out; have := HJ38.out; have := HK8.out; omega⟩, ⟨by (with_reducible repeat (first | apply Kd.R_alloc | apply Kd.R_drewN | apply Kd.R_drew)); exact HQ80.out⟩, ⟨by (with_reducible repeat (first | refine blk_drewN ?_ _ | refine blk_drew ?_ | refine blk_alloc ?_ _)); refine blk_far ?_ (by have h_ := Kd.R_ne HO_14.out BK198.out (by decide); intro e_; exact h_ (by rw [e_]; rfl)) _; (with_reducible repeat (first | refine blk_drewN ?_ _ | refine blk_drew ?_ | refine blk_alloc ?_ _)); exact BK198.out⟩, ⟨by (with_reducible repeat (first | refine blk_drewN ?_ _ | refine blk_drew ?_ | refine blk_alloc ?_ _)); refine blk_far ?_ (by have h_ := Kd.R_ne HO_14.out BK215.out (by decide); intro e_; exact h_ (by rw [e_]; rfl)) _; (with_reducible repeat (first | refine blk_drewN ?_ _ | refine blk_drew ?_ | refine blk_alloc ?_ _)); exact BK215.out⟩, ⟨by repeat (first | (with_reducible first | exact HB.out | apply below_alloc | apply pw_below_drewN | apply below_drew1 | refine below_set ?_ GB75.out | refine below_set ?_ GE198.out | refine below_set ?_ GE215.out) | exact HB.out)⟩⟩
                                                          · rw [if_neg c74] at H
                                                            exact absurd H (by simp)
                                                        · rw [if_neg c73] at H
                                                          exact absurd H (by simp)
                                                    · rw [if_neg c70] at H
                                                      have c70b0 : decide (x23_8 < (wrap64 (t212 * t213))) = false := decide_eq_false c70
                                                      clear c70
                                                      as_aux_lemma =>
                                                        have H' := Aside0.mk H
                                                        clear H
                                                        have hnb81 := NB215_198.out
                                                        have hnc81 := NB198_215.out
                                                        have hcz82_0 : wr.cell? ⟨gb215, 0, none⟩ = some (.int .i64 t210) := (blk_cell BK215.out 0).trans rfl
                                                        have hcz82_1 : wr.cell? ⟨gb215, 1, none⟩ = some (.int .i64 t211) := (blk_cell BK215.out 1).trans rfl
                                                        have hcz82_2 : wr.cell? ⟨gb215, 2, none⟩ = some (.int .i64 t212) := (blk_cell BK215.out 2).trans rfl
                                                        have hcz82_3 : wr.cell? ⟨gb215, 3, none⟩ = some (.int .i64 t213) := (blk_cell BK215.out 3).trans rfl
                                                        have hfz82_0 := blk_frozen BK215.out 0
                                                        have hfz82_1 := blk_frozen BK215.out 1
                                                        have hfz82_2 := blk_frozen BK215.out 2
                                                        have hfz82_3 := blk_frozen BK215.out 3
                                                        go_wp2
                                                        go_roundg k8
                                                        case measure => have := HJ5.out; have := HK2.out; have := HJ15.out; have := HK4.out; have := HK5.out; have := HJ33.out; have := HJ38.out; have := HK8.out; omega
                                                        case rel => exact ⟨(x14_8), (wrap64 (x19_5 + x20_33)), (by first | rfl | (simp; done) | (simp [*]; done)), H', ⟨by have := HJ5.out; have := HK2.out; have := HJ15.out; have := HK4.out; have := HK5.out; have := HJ33.out; have := HJ38.out; have := HK8.out; omega⟩, ⟨by (with_reducible repeat (first | apply Kd.R_alloc | apply Kd.R_drewN | apply Kd.R_drew)); exact HO_14.out⟩, ⟨by (with_reducible repeat (first | refine blk_drewN ?_ _ | refine blk_drew ?_ | refine blk_alloc ?_ _)); exact BK198.out⟩, ⟨by repeat (first | (with_reducible first | exact HB.out | apply below_alloc | apply pw_below_drewN | apply below_drew1 | refine below_set ?_ GE198.out | refine below_set ?_ GE215.out) | exact HB.out)⟩⟩
                                    · rw [if_neg c32] at H
                                      have c32b0 : decide (x19_5 < a0_0) = false := decide_eq_false c32
                                      clear c32
                                      as_aux_lemma =>
                                        have H' := Aside0.mk H
                                        clear H
                                        have hcz83_0 : wr.cell? ⟨gb198, 0, none⟩ = some (.int .i64 a0_0) := (blk_cell BK198.out 0).trans rfl
                                        have hcz83_1 : wr.cell? ⟨gb198, 1, none⟩ = some (.int .i64 a0_1) := (blk_cell BK198.out 1).trans rfl
                                        have hcz83_2 : wr.cell? ⟨gb198, 2, none⟩ = some (.int .i64 a0_2) := (blk_cell BK198.out 2).trans rfl
                                        have hcz83_3 : wr.cell? ⟨gb198, 3, none⟩ = some (.bool a0_3) := (blk_cell BK198.out 3).trans rfl
                                        have hfz83_0 := blk_frozen BK198.out 0
                                        have hfz83_1 := blk_frozen BK198.out 1
                                        have hfz83_2 := blk_frozen BK198.out 2
                                        have hfz83_3 := blk_frozen BK198.out 3
                                        go_wp2
                                        go_roundg k5
                                        case measure => have := HJ5.out; have := HK2.out; have := HJ15.out; have := HK4.out; have := HK5.out; omega
                                        case rel => exact ⟨(x14_5), ((wrap64 (x15_4 + 1))), (wrap64 (x16_4 + (wrap64 (1 + t208)))), (by first | rfl | (simp; done) | (simp [*]; done)), (by first | rfl | (simp; done) | (simp [*]; done)), H', ⟨by have := HJ5.out; have := HK2.out; have := HJ15.out; have := HK4.out; have := HK5.out; omega⟩, ⟨by (with_reducible repeat (first | apply Kd.R_alloc | apply Kd.R_drewN | apply Kd.R_drew)); exact HO_14.out⟩, ⟨by (with_reducible repeat (first | refine blk_drewN ?_ _ | refine blk_drew ?_ | refine blk_alloc ?_ _)); exact BK198.out⟩, ⟨by repeat (first | (with_reducible first | exact HB.out | apply below_alloc | apply pw_below_drewN | apply below_drew1 | refine below_set ?_ GE198.out) | exact HB.out)⟩⟩
                              · rw [if_neg c29] at H
                                have c29b0 : decide (x16_4 < a0_1) = false := decide_eq_false c29
                                clear c29
                                have H' := Aside0.mk H
                                clear H
                                have hcz84_0 : wr.cell? ⟨gb198, 0, none⟩ = some (.int .i64 a0_0) := (blk_cell BK198.out 0).trans rfl
                                have hcz84_1 : wr.cell? ⟨gb198, 1, none⟩ = some (.int .i64 a0_1) := (blk_cell BK198.out 1).trans rfl
                                have hcz84_2 : wr.cell? ⟨gb198, 2, none⟩ = some (.int .i64 a0_2) := (blk_cell BK198.out 2).trans rfl
                                have hcz84_3 : wr.cell? ⟨gb198, 3, none⟩ = some (.bool a0_3) := (blk_cell BK198.out 3).trans rfl
                                have hfz84_0 := blk_frozen BK198.out 0
                                have hfz84_1 := blk_frozen BK198.out 1
                                have hfz84_2 := blk_frozen BK198.out 2
                                have hfz84_3 := blk_frozen BK198.out 3
                                go_wp2
                                go_loopg [24] k4 (fun kq v24 w' => ∃ (x24_5 : Int), v24 = .int .i64 x24_5 ∧ Aside0 (dailieslaw06_PlaneTiled.l4 kq l1 l2 t200 x10_2 x14_4 x24_5 a0_0 a0_1 a0_2 a0_3 = some r) ∧ Aside0 (kq ≤ k4) ∧ Aside0 (Kd.R (Kd.int .i64) 3 w' w.heap.size (fun _ => True) v206 x14_4) ∧ Aside0 (w'.heap[gb198]? = some (.cells #[.int .i64 a0_0, .int .i64 a0_1, .int .i64 a0_2, .bool a0_3] 26 (0, 0))) ∧ Aside0 (Below w.heap.size w w'))
                                case atStart => exact ⟨(0), (by first | rfl | (simp; done) | (simp [*]; done)), H', ⟨Nat.le_refl _⟩, ⟨by (with_reducible repeat (first | apply Kd.R_alloc | apply Kd.R_drewN | apply Kd.R_drew)); exact HO_14.out⟩, ⟨by (with_reducible repeat (first | refine blk_drewN ?_ _ | refine blk_drew ?_ | refine blk_alloc ?_ _)); exact BK198.out⟩, ⟨by repeat (first | (with_reducible first | exact HB.out | apply below_alloc | apply pw_below_drewN | apply below_drew1 | refine below_set ?_ GE198.out) | exact HB.out)⟩⟩
                                case round =>
                                  clear H'
                                  try clear c1
                                  try clear c2
                                  try clear p2
                                  try clear q2
                                  try clear hx2
                                  try clear c3
                                  try clear c4
                                  try clear c5
                                  try clear c6
                                  try clear p6
                                  try clear c7
                                  try clear p7
                                  try clear q7
                                  try clear hx7
                                  try clear hf7
                                  try clear c8
                                  try clear c11
                                  try clear c12
                                  try clear c13
                                  try clear c13b0
                                  try clear c15
                                  try clear c15b0
                                  try clear c15b1
                                  try clear c16
                                  try clear c18
                                  try clear c19
                                  try clear c19b0
                                  try clear c20
                                  try clear c20b0
                                  try clear c21
                                  try clear c21b0
                                  try clear p21
                                  try clear q21
                                  try clear hx21
                                  try clear c22
                                  try clear c22b0
                                  try clear c23
                                  try clear c25
                                  try clear c25b0
                                  try clear c25b1
                                  try clear c26
                                  try clear c26b0
                                  try clear c26b1
                                  try clear c29
                                  try clear c29b0
                                  try clear c32
                                  try clear c32b0
                                  try clear c36
                                  try clear c36b0
                                  try clear c37
                                  try clear c39
                                  try clear c43
                                  try clear c45
                                  try clear c45b0
                                  try clear c45b1
                                  try clear c46
                                  try clear c46b0
                                  try clear c47
                                  try clear c49
                                  try clear c49b0
                                  try clear c50
                                  try clear c52
                                  try clear c52b0
                                  try clear c53
                                  try clear c55
                                  try clear c55b0
                                  try clear c56
                                  try clear c58
                                  try clear c58b0
                                  try clear c59
                                  try clear c61
                                  try clear c61b0
                                  try clear c62
                                  try clear c64
                                  try clear c64b0
                                  try clear p64
                                  try clear c65
                                  try clear c67
                                  try clear c69
                                  try clear c70
                                  try clear c70b0
                                  try clear c71
                                  try clear c71b0
                                  try clear c71b1
                                  try clear c73
                                  try clear c73b0
                                  try clear c74
                                  try clear c74b0
                                  try clear p75
                                  try clear q75
                                  try clear hx75
                                  try clear hf75
                                  try clear c76
                                  try clear c81
                                  try clear hcz17_0
                                  try clear hcz17_1
                                  try clear hcz17_2
                                  try clear hcz17_3
                                  try clear hcz31_0
                                  try clear hcz31_1
                                  try clear hcz31_2
                                  try clear hcz31_3
                                  try clear hcz35_0
                                  try clear hcz35_1
                                  try clear hcz35_2
                                  try clear hcz35_3
                                  try clear hcz37_0
                                  try clear hcz37_1
                                  try clear hcz37_2
                                  try clear hcz37_3
                                  try clear hcz40_0
                                  try clear hcz40_1
                                  try clear hcz40_2
                                  try clear hcz40_3
                                  try clear hcz44_0
                                  try clear hcz44_1
                                  try clear hcz44_2
                                  try clear hcz44_3
                                  try clear hcz48_0
                                  try clear hcz48_1
                                  try clear hcz48_2
                                  try clear hcz48_3
                                  try clear hcz51_0
                                  try clear hcz51_1
                                  try clear hcz51_2
                                  try clear hcz51_3
                                  try clear hcz54_0
                                  try clear hcz54_1
                                  try clear hcz54_2
                                  try clear hcz54_3
                                  try clear hcz57_0
                                  try clear hcz57_1
                                  try clear hcz57_2
                                  try clear hcz57_3
                                  try clear hcz60_0
                                  try clear hcz60_1
                                  try clear hcz60_2
                                  try clear hcz60_3
                                  try clear hcz63_0
                                  try clear hcz63_1
                                  try clear hcz63_2
                                  try clear hcz63_3
                                  try clear hcz66_0
                                  try clear hcz66_1
                                  try clear hcz66_2
                                  try clear hcz66_3
                                  try clear hcz68_0
                                  try clear hcz68_1
                                  try clear hcz68_2
                                  try clear hcz68_3
                                  try clear hcz77_0
                                  try clear hcz77_1
                                  try clear hcz77_2
                                  try clear hcz77_3
                                  try clear hcz82_0
                                  try clear hcz82_1
                                  try clear hcz82_2
                                  try clear hcz82_3
                                  try clear hcz83_0
                                  try clear hcz83_1
                                  try clear hcz83_2
                                  try clear hcz83_3
                                  try clear hcz84_0
                                  try clear hcz84_1
                                  try clear hcz84_2
                                  try clear hcz84_3
                                  try clear hcz9_0
                                  try clear hcz9_1
                                  try clear hcz9_2
                                  try clear hcz9_3
                                  try clear hfz17_0
                                  try clear hfz17_1
                                  try clear hfz17_2
                                  try clear hfz17_3
                                  try clear hfz31_0
                                  try clear hfz31_1
                                  try clear hfz31_2
                                  try clear hfz31_3
                                  try clear hfz35_0
                                  try clear hfz35_1
                                  try clear hfz35_2
                                  try clear hfz35_3
                                  try clear hfz37_0
                                  try clear hfz37_1
                                  try clear hfz37_2
                                  try clear hfz37_3
                                  try clear hfz40_0
                                  try clear hfz40_1
                                  try clear hfz40_2
                                  try clear hfz40_3
                                  try clear hfz44_0
                                  try clear hfz44_1
                                  try clear hfz44_2
                                  try clear hfz44_3
                                  try clear hfz48_0
                                  try clear hfz48_1
                                  try clear hfz48_2
                                  try clear hfz48_3
                                  try clear hfz51_0
                                  try clear hfz51_1
                                  try clear hfz51_2
                                  try clear hfz51_3
                                  try clear hfz54_0
                                  try clear hfz54_1
                                  try clear hfz54_2
                                  try clear hfz54_3
                                  try clear hfz57_0
                                  try clear hfz57_1
                                  try clear hfz57_2
                                  try clear hfz57_3
                                  try clear hfz60_0
                                  try clear hfz60_1
                                  try clear hfz60_2
                                  try clear hfz60_3
                                  try clear hfz63_0
                                  try clear hfz63_1
                                  try clear hfz63_2
                                  try clear hfz63_3
                                  try clear hfz66_0
                                  try clear hfz66_1
                                  try clear hfz66_2
                                  try clear hfz66_3
                                  try clear hfz68_0
                                  try clear hfz68_1
                                  try clear hfz68_2
                                  try clear hfz68_3
                                  try clear hfz77_0
                                  try clear hfz77_1
                                  try clear hfz77_2
                                  try clear hfz77_3
                                  try clear hfz82_0
                                  try clear hfz82_1
                                  try clear hfz82_2
                                  try clear hfz82_3
                                  try clear hfz83_0
                                  try clear hfz83_1
                                  try clear hfz83_2
                                  try clear hfz83_3
                                  try clear hfz84_0
                                  try clear hfz84_1
                                  try clear hfz84_2
                                  try clear hfz84_3
                                  try clear hfz9_0
                                  try clear hfz9_1
                                  try clear hfz9_2
                                  try clear hfz9_3
                                  try clear hx216_0
                                  try clear hx75_0
                                  try clear p2
                                  try clear p216
                                  try clear p6
                                  try clear p64
                                  try clear p75
                                  try clear q216
                                  try clear q75
                                  obtain ⟨x24_5, rfl, HA, HK5, HO_14, BK198, HB⟩ := hrel
                                  cases gk with
                                  | zero => exact absurd HA.out (by simp [dailieslaw06_PlaneTiled.l4])
                                  | succ k5 =>
                                    have H := HA.out
                                    clear HA
                                    simp only [dailieslaw06_PlaneTiled.l4] at H
                                    by_cases c85 : x24_5 < (x14_4.length : Int)
                                    · rw [if_pos c85] at H
                                      have c85b0 : decide (x24_5 < (x14_4.length : Int)) = true := decide_eq_true c85
                                      clear c85
                                      by_cases c86 : 0 ≤ x24_5
                                      · rw [if_pos c86] at H
                                        have c86b0 : decide (0 ≤ x24_5) = true := decide_eq_true c86
                                        clear c86
                                        by_cases c87 : (rd x14_4 x24_5) = 1
                                        · rw [if_pos c87] at H
                                          have c87b0 : ((rd x14_4 x24_5) == 1) = true := beq_iff_eq.mpr c87
                                          have c87b1 : ((rd x14_4 x24_5) != 1) = false := bne_eq_false_iff_eq.mpr c87
                                          clear c87
                                          as_aux_lemma =>
                                            have H' := Aside0.mk H
                                            clear H
                                            obtain ⟨Ao88, co88, eo88⟩ := Kd.R_slice HO_14.out
                                            subst eo88
                                            have p218 : 0 ≤ (x24_5 : Int) := of_decide_eq_true (by first | (with_reducible assumption) | assumption)
                                            have q218 : x24_5 < (x14_4.length : Int) := of_decide_eq_true (by first | (with_reducible assumption) | assumption)
                                            obtain ⟨ad218, e218, hx218_0⟩ := Kd.at_int (Kd.R_reads' HO_14.out).2.2 x24_5 p218 q218
                                            cases e218
                                            replace p218 := eq_true p218
                                            replace q218 := eq_true q218
                                            go_wp2
                                            go_roundg k5
                                            case measure => have := HJ5.out; have := HK2.out; have := HJ15.out; have := HK4.out; have := HK5.out; omega
                                            case rel => exact ⟨(wrap64 (x24_5 + 1)), (by first | rfl | (simp; done) | (simp [*]; done)), H', ⟨by have := HJ5.out; have := HK2.out; have := HJ15.out; have := HK4.out; have := HK5.out; omega⟩, ⟨by (with_reducible repeat (first | apply Kd.R_alloc | apply Kd.R_drewN | apply Kd.R_drew)); exact HO_14.out⟩, ⟨by (with_reducible repeat (first | refine blk_drewN ?_ _ | refine blk_drew ?_ | refine blk_alloc ?_ _)); exact BK198.out⟩, ⟨by repeat (first | (with_reducible first | exact HB.out | apply below_alloc | apply pw_below_drewN | apply below_drew1 | refine below_set ?_ GE198.out) | exact HB.out)⟩⟩
                                        · rw [if_neg c87] at H
                                          have c87b0 : ((rd x14_4 x24_5) == 1) = false := beq_eq_false_iff_ne.mpr c87
                                          have c87b1 : ((rd x14_4 x24_5) != 1) = true := bne_iff_ne.mpr c87
                                          as_aux_lemma =>
                                            obtain rfl := Option.some.inj H
                                            obtain ⟨Ao89, co89, eo89⟩ := Kd.R_slice HO_14.out
                                            subst eo89
                                            have p218 : 0 ≤ (x24_5 : Int) := of_decide_eq_true (by first | (with_reducible assumption) | assumption)
                                            have q218 : x24_5 < (x14_4.length : Int) := of_decide_eq_true (by first | (with_reducible assumption) | assumption)
                                            obtain ⟨ad218, e218, hx218_0⟩ := Kd.at_int (Kd.R_reads' HO_14.out).2.2 x24_5 p218 q218
                                            cases e218
                                            replace p218 := eq_true p218
                                            replace q218 := eq_true q218
                                            go_wp2
                                            go_ret
                                            exact ⟨by first | rfl | (simp [errW_none, errW_some] <;> rfl) | (simp only [← hji24]; first | rfl | (simp [errW_none, errW_some] <;> rfl)) | (simp [*, errW_none, errW_some] <;> rfl), by repeat (first | (with_reducible first | exact HB.out | apply below_alloc | apply pw_below_drewN | apply below_drew1 | refine below_set ?_ GE198.out) | exact HB.out)⟩
                                      · rw [if_neg c86] at H
                                        exact absurd H (by simp)
                                    · rw [if_neg c85] at H
                                      have c85b0 : decide (x24_5 < (x14_4.length : Int)) = false := decide_eq_false c85
                                      clear c85
                                      as_aux_lemma =>
                                        have H' := Aside0.mk H
                                        clear H
                                        obtain ⟨Ao90, co90, eo90⟩ := Kd.R_slice HO_14.out
                                        subst eo90
                                        go_wp2
                                        go_roundg k5
                                        case measure => have := HJ5.out; have := HK2.out; have := HJ15.out; have := HK4.out; have := HK5.out; omega
                                        case rel => exact ⟨(wrap64 (x10_2 + 1)), (by first | rfl | (simp; done) | (simp [*]; done)), H', ⟨by have := HJ5.out; have := HK2.out; have := HJ15.out; have := HK4.out; have := HK5.out; omega⟩, ⟨by (with_reducible repeat (first | refine blk_drewN ?_ _ | refine blk_drew ?_ | refine blk_alloc ?_ _)); exact BK198.out⟩, ⟨by repeat (first | (with_reducible first | exact HB.out | apply below_alloc | apply pw_below_drewN | apply below_drew1 | refine below_set ?_ GE198.out) | exact HB.out)⟩⟩
                        · rw [if_neg c26] at H
                          exact absurd H (by simp)
                      · rw [if_neg c25] at H
                        exact absurd H (by simp)
              · rw [if_neg c15] at H
                have c15b0 : (t204 == 0) = false := beq_eq_false_iff_ne.mpr c15
                have c15b1 : (t204 != 0) = true := bne_iff_ne.mpr c15
                by_cases c91 : x10_2 < 3
                · rw [if_pos c91] at H
                  have c91b0 : decide (x10_2 < 3) = true := decide_eq_true c91
                  clear c91
                  as_aux_lemma =>
                    obtain rfl := Option.some.inj H
                    have hcz92_0 : wr.cell? ⟨gb198, 0, none⟩ = some (.int .i64 a0_0) := (blk_cell BK198.out 0).trans rfl
                    have hcz92_1 : wr.cell? ⟨gb198, 1, none⟩ = some (.int .i64 a0_1) := (blk_cell BK198.out 1).trans rfl
                    have hcz92_2 : wr.cell? ⟨gb198, 2, none⟩ = some (.int .i64 a0_2) := (blk_cell BK198.out 2).trans rfl
                    have hcz92_3 : wr.cell? ⟨gb198, 3, none⟩ = some (.bool a0_3) := (blk_cell BK198.out 3).trans rfl
                    have hfz92_0 := blk_frozen BK198.out 0
                    have hfz92_1 := blk_frozen BK198.out 1
                    have hfz92_2 := blk_frozen BK198.out 2
                    have hfz92_3 := blk_frozen BK198.out 3
                    go_wp2_with (first | ((with_reducible refine gate_callee (f := 18) rfl ?_); refine goesL_ (some 45) rfl rfl Try.func18 (by kernel_rfl) rfl #[.agg #[.int .i64 a0_0, .int .i64 a0_1, .int .i64 a0_2, .bool a0_3], .int .i64 x10_2] rfl (by (try simp only [List.map_toArray, List.map_cons, List.map_nil]); first | done | rfl | (simp only [List.length_drop, List.length_take]; rfl)) ?_; (with_reducible refine (plane_Size.calls k2 a0_0 a0_1 a0_2 a0_3 x10_2 t202 t203 t204 _ A14.out).mono ?_); rintro e w93 ⟨rfl, hb⟩; refine ⟨_, rfl, ?_⟩; have n0_ := Aside0.mk (blk_below (g := gb198) (o := .cells #[.int .i64 a0_0, .int .i64 a0_1, .int .i64 a0_2, .bool a0_3] 26 (0, 0)) (by (with_reducible repeat (first | refine blk_drewN ?_ _ | refine blk_drew ?_ | refine blk_alloc ?_ _)); exact BK198.out) hb); have n1_ := Aside0.mk (below_step (by repeat (first | (with_reducible first | exact HB.out | apply below_alloc | apply pw_below_drewN | apply below_drew1 | refine below_set ?_ GE198.out) | exact HB.out)) hb); clear BK198; clear HB; have BK198 := n0_; have HB := n1_; clear n0_ n1_; (try clear hb); (try clear hb2); (try clear hk); (try clear hi)))
                    go_ret
                    exact ⟨by first | rfl | (simp [errW_none, errW_some] <;> rfl) | (simp [*, errW_none, errW_some] <;> rfl), by repeat (first | (with_reducible first | exact HB.out | apply below_alloc | apply pw_below_drewN | apply below_drew1 | refine below_set ?_ GE198.out) | exact HB.out)⟩
                · rw [if_neg c91] at H
                  have c91b0 : decide (x10_2 < 3) = false := decide_eq_false c91
                  clear c91
                  by_cases c94 : a0_3 = true
                  · subst c94
                    have H1 : (some false) = some r := by rw [if_pos rfl] at H; exact H
                    clear H
                    have H := H1
                    clear H1
                    as_aux_lemma =>
                      obtain rfl := Option.some.inj H
                      have hcz95_0 : wr.cell? ⟨gb198, 0, none⟩ = some (.int .i64 a0_0) := (blk_cell BK198.out 0).trans rfl
                      have hcz95_1 : wr.cell? ⟨gb198, 1, none⟩ = some (.int .i64 a0_1) := (blk_cell BK198.out 1).trans rfl
                      have hcz95_2 : wr.cell? ⟨gb198, 2, none⟩ = some (.int .i64 a0_2) := (blk_cell BK198.out 2).trans rfl
                      have hcz95_3 : wr.cell? ⟨gb198, 3, none⟩ = some (.bool true) := (blk_cell BK198.out 3).trans rfl
                      have hfz95_0 := blk_frozen BK198.out 0
                      have hfz95_1 := blk_frozen BK198.out 1
                      have hfz95_2 := blk_frozen BK198.out 2
                      have hfz95_3 := blk_frozen BK198.out 3
                      go_wp2_with (first | ((with_reducible refine gate_callee (f := 18) rfl ?_); refine goesL_ (some 45) rfl rfl Try.func18 (by kernel_rfl) rfl #[.agg #[.int .i64 a0_0, .int .i64 a0_1, .int .i64 a0_2, .bool true], .int .i64 x10_2] rfl (by (try simp only [List.map_toArray, List.map_cons, List.map_nil]); first | done | rfl | (simp only [List.length_drop, List.length_take]; rfl)) ?_; (with_reducible refine (plane_Size.calls k2 a0_0 a0_1 a0_2 true x10_2 t202 t203 t204 _ A14.out).mono ?_); rintro e w96 ⟨rfl, hb⟩; refine ⟨_, rfl, ?_⟩; have n0_ := Aside0.mk (blk_below (g := gb198) (o := .cells #[.int .i64 a0_0, .int .i64 a0_1, .int .i64 a0_2, .bool true] 26 (0, 0)) (by (with_reducible repeat (first | refine blk_drewN ?_ _ | refine blk_drew ?_ | refine blk_alloc ?_ _)); exact BK198.out) hb); have n1_ := Aside0.mk (below_step (by repeat (first | (with_reducible first | exact HB.out | apply below_alloc | apply pw_below_drewN | apply below_drew1 | refine below_set ?_ GE198.out) | exact HB.out)) hb); clear BK198; clear HB; have BK198 := n0_; have HB := n1_; clear n0_ n1_; (try clear hb); (try clear hb2); (try clear hk); (try clear hi); have hcz97_0 : w96.cell? ⟨gb198, 0, none⟩ = some (.int .i64 a0_0) := (blk_cell BK198.out 0).trans rfl; have hcz97_1 : w96.cell? ⟨gb198, 1, none⟩ = some (.int .i64 a0_1) := (blk_cell BK198.out 1).trans rfl; have hcz97_2 : w96.cell? ⟨gb198, 2, none⟩ = some (.int .i64 a0_2) := (blk_cell BK198.out 2).trans rfl; have hcz97_3 : w96.cell? ⟨gb198, 3, none⟩ = some (.bool true) := (blk_cell BK198.out 3).trans rfl; have hfz97_0 := blk_frozen BK198.out 0; have hfz97_1 := blk_frozen BK198.out 1; have hfz97_2 := blk_frozen BK198.out 2; have hfz97_3 := blk_frozen BK198.out 3))
                      go_ret
                      exact ⟨by first | rfl | (simp [errW_none, errW_some] <;> rfl) | (simp [*, errW_none, errW_some] <;> rfl), by repeat (first | (with_reducible first | exact HB.out | apply below_alloc | apply pw_below_drewN | apply below_drew1 | refine below_set ?_ GE198.out) | exact HB.out)⟩
                  · replace c94 := Bool.eq_false_iff.mpr c94
                    subst c94
                    have H1 : (dailieslaw06_PlaneTiled.l0 k2 l1 l2 t200 (wrap64 (x10_2 + 1)) a0_0 a0_1 a0_2 false) = some r := by rw [if_neg (show ¬ (false = true) by decide)] at H; exact H
                    clear H
                    have H := H1
                    clear H1
                    as_aux_lemma =>
                      have H' := Aside0.mk H
                      clear H
                      have hcz98_0 : wr.cell? ⟨gb198, 0, none⟩ = some (.int .i64 a0_0) := (blk_cell BK198.out 0).trans rfl
                      have hcz98_1 : wr.cell? ⟨gb198, 1, none⟩ = some (.int .i64 a0_1) := (blk_cell BK198.out 1).trans rfl
                      have hcz98_2 : wr.cell? ⟨gb198, 2, none⟩ = some (.int .i64 a0_2) := (blk_cell BK198.out 2).trans rfl
                      have hcz98_3 : wr.cell? ⟨gb198, 3, none⟩ = some (.bool false) := (blk_cell BK198.out 3).trans rfl
                      have hfz98_0 := blk_frozen BK198.out 0
                      have hfz98_1 := blk_frozen BK198.out 1
                      have hfz98_2 := blk_frozen BK198.out 2
                      have hfz98_3 := blk_frozen BK198.out 3
                      go_wp2_with (first | ((with_reducible refine gate_callee (f := 18) rfl ?_); refine goesL_ (some 45) rfl rfl Try.func18 (by kernel_rfl) rfl #[.agg #[.int .i64 a0_0, .int .i64 a0_1, .int .i64 a0_2, .bool false], .int .i64 x10_2] rfl (by (try simp only [List.map_toArray, List.map_cons, List.map_nil]); first | done | rfl | (simp only [List.length_drop, List.length_take]; rfl)) ?_; (with_reducible refine (plane_Size.calls k2 a0_0 a0_1 a0_2 false x10_2 t202 t203 t204 _ A14.out).mono ?_); rintro e w99 ⟨rfl, hb⟩; refine ⟨_, rfl, ?_⟩; have n0_ := Aside0.mk (blk_below (g := gb198) (o := .cells #[.int .i64 a0_0, .int .i64 a0_1, .int .i64 a0_2, .bool false] 26 (0, 0)) (by (with_reducible repeat (first | refine blk_drewN ?_ _ | refine blk_drew ?_ | refine blk_alloc ?_ _)); exact BK198.out) hb); have n1_ := Aside0.mk (below_step (by repeat (first | (with_reducible first | exact HB.out | apply below_alloc | apply pw_below_drewN | apply below_drew1 | refine below_set ?_ GE198.out) | exact HB.out)) hb); clear BK198; clear HB; have BK198 := n0_; have HB := n1_; clear n0_ n1_; (try clear hb); (try clear hb2); (try clear hk); (try clear hi); have hcz100_0 : w99.cell? ⟨gb198, 0, none⟩ = some (.int .i64 a0_0) := (blk_cell BK198.out 0).trans rfl; have hcz100_1 : w99.cell? ⟨gb198, 1, none⟩ = some (.int .i64 a0_1) := (blk_cell BK198.out 1).trans rfl; have hcz100_2 : w99.cell? ⟨gb198, 2, none⟩ = some (.int .i64 a0_2) := (blk_cell BK198.out 2).trans rfl; have hcz100_3 : w99.cell? ⟨gb198, 3, none⟩ = some (.bool false) := (blk_cell BK198.out 3).trans rfl; have hfz100_0 := blk_frozen BK198.out 0; have hfz100_1 := blk_frozen BK198.out 1; have hfz100_2 := blk_frozen BK198.out 2; have hfz100_3 := blk_frozen BK198.out 3))
                      go_roundg k2
                      case measure => have := HJ5.out; have := HK2.out; omega
                      case rel => exact ⟨(wrap64 (x10_2 + 1)), (by first | rfl | (simp; done) | (simp [*]; done)), H', ⟨by have := HJ5.out; have := HK2.out; omega⟩, ⟨by (with_reducible repeat (first | refine blk_drewN ?_ _ | refine blk_drew ?_ | refine blk_alloc ?_ _)); exact BK198.out⟩, ⟨by repeat (first | (with_reducible first | exact HB.out | apply below_alloc | apply pw_below_drewN | apply below_drew1 | refine below_set ?_ GE198.out) | exact HB.out)⟩⟩
            · rw [if_neg c13] at H
              have c13b0 : decide (x10_2 < 4) = false := decide_eq_false c13
              clear c13
              as_aux_lemma =>
                obtain rfl := Option.some.inj H
                go_wp2
                go_ret
                exact ⟨by first | rfl | (simp [errW_none, errW_some] <;> rfl) | (simp [*, errW_none, errW_some] <;> rfl), by repeat (first | (with_reducible first | exact HB.out | apply below_alloc | apply pw_below_drewN | apply below_drew1 | refine below_set ?_ GE198.out) | exact HB.out)⟩

end Go.Proofs.Ytdoikehkibefpaa.PPa
