import Derived.Test.YtiglncmkinojjaaDoorModelD
namespace Go.Proofs.YtiglncmkinojjaaDoor
set_option linter.unusedSimpArgs false
set_option linter.unusedVariables false
open Go Go.RowKit

def flav (p : Int) : Int × Int × Int × Int := if p = 0 then (1023, 6, 19, 72) else (4095, 18, 67, 276)
def madeMo (p t : Int) (n : Nat) : Mo := newMo (flav p).1 t (flav p).2.1 (flav p).2.2.1 (flav p).2.2.2 n
theorem madeMo_fits (p t : Int) (n : Nat) (ht : 0 ≤ t) (ht2 : t ≤ 63) (hw : Wides (madeMo p t n).span n) : (madeMo p t n).Fits :=
  newMo_fits _ _ _ _ _ _ (by unfold flav; split <;> simp) ht ht2 hw

theorem made_ok (W : World) (hT : Tab W) (l : List HP) (x y p t : Int) (w : World) (hS : St (top W) l w) (hx : (Lit.int .i64 x).wf = true) (hy : (Lit.int .i64 y).wf = true) (hp : placeN x 2 = p) (ht : placeN y 64 = t) :
    Calls Tryd.prog 10 #[.int .i64 x, .int .i64 y] w fun e' w' => ∃ g n, e' = .returned (.tuple #[.pointer (some ⟨g, 0, none⟩), .int .i64 (flav p).1, .int .i64 t]) ∧ Hid (Wides (madeMo p t n).span n) ∧ St (top W) (mdl g (madeMo p t n) :: l) w' := by
  have hp1 := placeN_lt x 2 (by decide)
  have ht1 := placeN_lt y 64 (by decide)
  rw [hp] at hp1
  rw [ht] at ht1
  obtain ⟨ht1, ht2⟩ := ht1
  have HS := Lib.hid hS
  have HT := Lib.hid hT
  have HX := Lib.hid hx
  have HY := Lib.hid hy
  have HP := Lib.hid hp
  have HTT := Lib.hid ht
  clear hS hT hx hy hp ht
  obtain rfl | rfl : p = 0 ∨ p = 1 := by omega
  · have e1 : flav 0 = (1023, 6, 19, 72) := rfl
    go_enter Tryd.func10, Tryd.ntmps10
    go_wp2_with (first
      | (go_at_call 11; with_reducible refine (place_is x 2 0 _ HX.out (by decide) HP.out).mono ?_; rintro e w1 ⟨rfl, rfl⟩; simp only [])
      | (go_at_call 11; with_reducible refine (place_is y 64 t _ HY.out (by decide) HTT.out).mono ?_; rintro e w1 ⟨rfl, rfl⟩; simp only [])
      | (go_at_call 24; go_must (with_reducible refine (New10 W HT.out l t _ HS.out (by omega) (by omega)).mono ?_); rintro e w1 ⟨g, n, rfl, HW, hS⟩; simp only []; have H := Lib.hid hS; clear hS))
    go_quiet (fail)
    go_wp2_with fail
    go_ret3
    exact ⟨g, n, rfl, HW, H.out.drewN _⟩
  · have e1 : flav 1 = (4095, 18, 67, 276) := rfl
    go_enter Tryd.func10, Tryd.ntmps10
    go_wp2_with (first
      | (go_at_call 11; with_reducible refine (place_is x 2 1 _ HX.out (by decide) HP.out).mono ?_; rintro e w1 ⟨rfl, rfl⟩; simp only [])
      | (go_at_call 11; with_reducible refine (place_is y 64 t _ HY.out (by decide) HTT.out).mono ?_; rintro e w1 ⟨rfl, rfl⟩; simp only [])
      | (go_at_call 24; go_must (with_reducible refine (New12 W HT.out l t _ HS.out (by omega) (by omega)).mono ?_); rintro e w1 ⟨g, n, rfl, HW, hS⟩; simp only []; have H := Lib.hid hS; clear hS))
    go_quiet (fail)
    go_wp2_with fail
    go_ret3
    exact ⟨g, n, rfl, HW, H.out.drewN _⟩

/-- What Param comes to. -/
def IsParam (a n : Int) (k : Nat) : Prop := k ≤ 15 ∧ (k < 15 → a ≤ n * ((2 ^ k : Nat) : Int)) ∧ ∀ j, j < k → n * ((2 ^ j : Nat) : Int) < a

theorem Param_ok (c : Ctx) (R : List HP) (g : Nat) (M : Mo) (k : Nat) (a b s n : Int) (w : World) (hS : St c (mdl g M :: R) w) (hk : k < 365) (hr : M.st[k]? = some (a, b, s, n)) (hn : 1 ≤ n) (hn2 : n ≤ 64) (ha : 0 ≤ a) (ha2 : a ≤ 1000000000) :
    Calls Tryd.prog 23 #[.pointer (some ⟨g, 0, none⟩), .int .i64 (k : Nat)] w fun e' w' => ∃ v : Nat, e' = .returned (.int .i64 (v : Nat)) ∧ Hid (IsParam a n v) ∧ St c (mdl g M :: R) w' := by
  obtain ⟨f0, f1, f2, f3⟩ := statFacts hS hr
  simp only at f0 f1 f2 f3
  have HS := Lib.hid hS
  clear hS hr
  go_enter Tryd.func23, Tryd.ntmps23
  go_wp2_with (go_at_call 28; go_must (with_reducible refine (known_ok k _ hk).mono ?_); rintro e1 w1 ⟨rfl, rfl⟩; simp only [])
  have H : Hid (St c (blk w1.heap.size [.int .i64 a, .int .i64 b, .int .i64 s, .int .i64 n] 60 :: mdl g M :: R) (w1.alloc (.cells #[.int .i64 a, .int .i64 b, .int .i64 s, .int .i64 n] 60))) := HS.out.alloc _ _
  generalize w1.alloc (.cells #[.int .i64 a, .int .i64 b, .int .i64 s, .int .i64 n] 60) = w2 at *
  generalize w1.heap.size = gs at *
  clear HS f0 f1 f2 f3
  go_loopw [6] (fun i w' => ∃ v : Nat, v ≤ 15 ∧ i = .int .i64 (v : Nat) ∧ Hid (∀ j, j < v → n * ((2 ^ j : Nat) : Int) < a) ∧ Hid (St c (blk gs [.int .i64 a, .int .i64 b, .int .i64 s, .int .i64 n] 60 :: mdl g M :: R) w')) (fun i _ => 16 - (intOf i).toNat)
  case atStart => exact ⟨0, by omega, rfl, fun j hj => absurd hj (Nat.not_lt_zero j), H⟩
  case round =>
    obtain ⟨v, hv, rfl, HN, H2⟩ := hrel
    clear H
    have f0 := H2.out.cell 0
    have f3 := H2.out.cell 3
    simp only [List.getElem?_cons_zero, List.getElem?_cons_succ] at f0 f3
    by_cases hv2 : v < 15
    · obtain ⟨p, hp⟩ : ∃ p : Nat, 2 ^ v = p := ⟨_, rfl⟩
      have hp2 : p ≤ 32768 := by rw [← hp]; exact Nat.pow_le_pow_right (n := 2) (by decide) hv
      obtain ⟨q, hq⟩ : ∃ q, n * (p : Int) = q := ⟨_, rfl⟩
      have hq2 := mul_bounds (a := n) (b := (p : Int)) (A := 64) (B := 32768) (by omega) (by omega) (by omega) (by omega)
      rw [hq] at hq2
      have hsh : wrap64 (n * 2 ^ v) = q := by
        have h2 : ((2 : Int) ^ v) = ((2 ^ v : Nat) : Int) := by push_cast; rfl
        rw [h2, hp, hq]; unfold wrap64; omega
      have HP := Lib.hid hp
      have HQ := Lib.hid hq
      have hv3 : decide ((v : Int) < 15) = true := decide_eq_true (by omega)
      clear hp hq hq2
      by_cases hlt : q < a
      · go_wp2_with fail
        go_quiet (fail)
        go_wp2_with fail
        refine ⟨⟨v + 1, by omega, by go_num, ?_, H2.out.drewN _⟩, by simp [intOf]; omega⟩
        intro j hj
        rcases Nat.lt_or_ge j v with h | h
        · exact HN.out j h
        · obtain rfl : j = v := by omega
          rw [HP.out, HQ.out]; exact hlt
      · go_wp2_with fail
        go_quiet (fail)
        go_wp2_with fail
        go_ret
        exact ⟨v, rfl, ⟨by omega, fun _ => by rw [HP.out, HQ.out]; omega, HN.out⟩, H2.out.drop.drewN _⟩
    · have hv3 : decide ((v : Int) < 15) = false := decide_eq_false (by omega)
      go_wp2_with fail
      go_quiet (fail)
      go_wp2_with fail
      go_ret
      exact ⟨v, rfl, ⟨by omega, fun h => absurd h (by omega), HN.out⟩, H2.out.drop.drewN _⟩

end Go.Proofs.YtiglncmkinojjaaDoor
