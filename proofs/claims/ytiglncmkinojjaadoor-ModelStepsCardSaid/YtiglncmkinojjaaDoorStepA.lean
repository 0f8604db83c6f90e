import Derived.Test.YtiglncmkinojjaaDoorRefF
import Derived.Test.YtiglncmkinojjaaDoorRefG
/-! The document's model: Learn of any context; New. The refusals of both New. -/
namespace Go.Proofs.YtiglncmkinojjaaDoor
set_option linter.unusedSimpArgs false
set_option linter.unusedVariables false
open Go Go.RowKit

theorem rLearn_any (c : Ctx) (R : List HP) (g gL cp : Nat) (dep : Int) (M M2 : Mo) (k q : Int) (w : World) (hS : St c (rhd g dep M.d (.slice (some ⟨gL, 0, none⟩) 365 cp) :: rtb gL cp M :: R) w) (hM : RIs dep M) (hI : ∀ s ∈ M.st, Inv s) (h2 : M.learn k q = M2) :
    Calls Tryd.prog 36 #[.pointer (some ⟨g, 0, none⟩), .int .i64 k, .int .i64 q] w fun e' w' => e' = .returned (.tuple #[]) ∧ St c (rhd g dep M.d (.slice (some ⟨gL, 0, none⟩) 365 cp) :: rtb gL cp M2 :: R) w' := by
  subst h2
  cases hk : known k with
  | true =>
    obtain ⟨m, rfl, hm, hst⟩ := Mo.at_known hM.fits hk
    have hi := hI _ (List.mem_of_getElem? hst)
    unfold Mo.learn
    rw [if_pos hk, Int.toNat_natCast]
    obtain ⟨⟨a, b, s, n⟩, hs⟩ : ∃ x, M.at (m : Int) = x := ⟨_, rfl⟩
    rw [hs] at hst hi ⊢
    exact rLearn_ok c R g gL cp dep M m q a b s n w hS hM hm hst hi
  | false =>
    have e : M.learn k q = M := by unfold Mo.learn; rw [hk]; rfl
    rw [e]
    have HS := Lib.hid hS
    have HK := Lib.hid hk
    clear hS hM hk hI e
    go_enter Tryd.func36, Tryd.ntmps36
    go_wp2_with (go_at_call 47; go_must (with_reducible refine (rknown_is k false _ HK.out).mono ?_); rintro e1 w1 ⟨rfl, rfl⟩; simp only [])
    refine bodyPost_ret (results_none rfl _ _ _) rfl ?_
    exact ⟨rfl, HS.out⟩

theorem elemStat : Elem Tryd.prog 70 74 (.agg #[.int .i64 0, .int .i64 0, .int .i64 0, .int .i64 0]) 4 32 := ⟨Tryd.underlying70, by kernel_rfl, rfl, by decide⟩
def filled (A : Int) (k : Nat) : List Value := (List.replicate k (A, (0 : Int), (0 : Int), (1 : Int))).flatMap st4
theorem filled_succ (A : Int) (k : Nat) : filled A k ++ [.int .i64 A, .int .i64 0, .int .i64 0, .int .i64 1] = filled A (k + 1) := by
  unfold filled
  rw [List.replicate_succ', List.flatMap_append]
  rfl
theorem span_t {M : Mo} {A : Int} (hst : M.st = List.replicate 365 (A, 0, 0, 1)) : M.st.flatMap st4 = filled A 365 := by rw [hst]; rfl

set_option maxHeartbeats 2000000 in
set_option maxRecDepth 100000 in
theorem rNew_ok (c : Ctx) (R : List HP) (dep A : Int) (M : Mo) (w : World) (hS : St c R w) (hM : RIs dep M) (hst : M.st = List.replicate 365 (A, 0, 0, 1)) (hA : (if 2 < (M.span + 32) / 64 then (M.span + 32) / 64 else 2) = A) :
    Calls Tryd.prog 30 #[.int .i64 dep, .int .i64 M.d] w fun e' w' => ∃ g gL cp, e' = .returned (.tuple #[.pointer (some ⟨g, 0, none⟩), .int .i64 0]) ∧ St c (rhd g dep M.d (.slice (some ⟨gL, 0, none⟩) 365 cp) :: rtb gL cp M :: R) w' := by
  have hd0 := hM.fits.d0
  have hd1 := hM.fits.d1
  have hp0 := hM.fits.p0
  have hp1 := hM.fits.p1
  have hdep : dep = 10 ∨ dep = 12 := by rcases hM.hdep with h | h <;> omega
  have HS := Lib.hid hS
  have HM := Lib.hid hM
  have HST := Lib.hid (span_t hst)
  clear hS hM hst
  obtain ⟨q, hq⟩ : ∃ q, (M.span + 32) / 64 = q := ⟨_, rfl⟩
  have hq0 : 0 ≤ q := by omega
  have hq1 : q ≤ 100 := by omega
  rw [hq] at hA
  have HQ := Lib.hid hq
  have HA := Lib.hid hA
  clear hA hq
  rcases hdep with rfl | rfl
  · go_enter Tryd.func30, Tryd.ntmps30
    go_wp2_with fail
    have H : Hid (St c (rhd w.heap.size 10 M.d (.slice none 0 0) :: row 74 4 (.slice none 0 0) 0 [] :: R) (w.alloc (.cells #[.int .i64 10, .int .i64 M.d, .slice none 0 0] 72))) := Lib.hid ((HS.out.nilRow _ _).alloc _ _)
    clear HS
    generalize w.alloc (.cells #[.int .i64 10, .int .i64 M.d, .slice none 0 0] 72) = w1 at *
    generalize w.heap.size = g at *
    refine (rRange_is c _ g 10 M _ _ H.out HM.out).mono ?_
    rintro e' w2 ⟨rfl, hq⟩
    simp only []
    have H2 := Lib.hid (H.out.of_quiet hq)
    clear hq H
    have hq := HQ.out
    by_cases hlt2 : q < 2
    · obtain rfl : A = 2 := by have := HA.out; rw [if_neg (by omega)] at this; exact this.symm
      go_wp2_with fail
      clear hq HQ HA
      go_loopw [8] (fun i w' => ∃ k : Nat, k ≤ 365 ∧ i = .int .i64 (k : Nat) ∧ ∃ v, Hid (St c (rhd g 10 M.d v :: row 74 4 v k (filled (2) k) :: R) w')) (fun i _ => 365 - (intOf i).toNat)
      case atStart => exact ⟨0, by omega, rfl, _, H2⟩
      case round =>
        obtain ⟨k, hk, rfl, v, H3⟩ := hrel
        clear H2
        by_cases hlt : k < 365
        · obtain ⟨-, -, f2⟩ := rFacts H3.out
          have HB := Lib.hid (St.alloc H3.out [.int .i64 (2), .int .i64 0, .int .i64 0, .int .i64 1] 74)
          clear H3
          go_wp2_with (at_builtin; go_must (refine St.append rfl (.tmp 39) (.tmp 42) _ rfl elemStat rfl HB.out.rot3 (some ⟨wr.heap.size, 0, none⟩) 1 1 [.int .i64 (2), .int .i64 0, .int .i64 0, .int .i64 1] rfl rfl (fun h => by cases h) (fun ad had j u hj => by obtain rfl := Option.some.inj had; (rw [show (⟨wr.heap.size, 0, none⟩ : Addr).add j = ⟨wr.heap.size, j, none⟩ by unfold Addr.add; split <;> simp_all]; exact (St.cell HB.out j).trans hj)) (by simp [Value.oneCell']) (by omega) (by simp [maxLen]; omega) ?_); intro v' w' hS' hnil; obtain ⟨g', cp', rfl, -⟩ := hS'.rowAt (by omega); rw [filled_succ] at hS'; have y2 := St.frozen hS'.rot3 2; have x2 := St.cell hS'.rot3 2; simp only [List.getElem?_cons_succ, List.getElem?_cons_zero] at x2; have H4 := Lib.hid (St.setCell hS'.rot3 2 (.slice (some ⟨g', 0, none⟩) (k + 1) cp')).rot3.drop; clear hS' hnil HB)
          go_roundw
          case rel => exact ⟨k + 1, by omega, by go_num, _, H4⟩
          case measure => simp [intOf]; omega
        · have hk2 : k = 365 := by omega
          obtain ⟨gL, cp, rfl, -⟩ := H3.out.swap.rowAt (by omega)
          have HK2 := Lib.hid hk2
          clear hk2
          have hge : decide ((k : Int) < 365) = false := decide_eq_false (by omega)
          go_wp2_with fail
          go_ret2
          refine ⟨g, gL, cp, rfl, ?_⟩
          unfold rtb
          rw [HST.out]
          have H4 := H3.out
          rw [HK2.out] at H4
          exact H4
    · obtain rfl : q = A := by
        have := HA.out
        by_cases h : 2 < q
        · rw [if_pos h] at this; exact this
        · rw [if_neg h] at this; omega
      go_wp2_with fail
      clear hq HQ HA
      go_loopw [8] (fun i w' => ∃ k : Nat, k ≤ 365 ∧ i = .int .i64 (k : Nat) ∧ ∃ v, Hid (St c (rhd g 10 M.d v :: row 74 4 v k (filled (q) k) :: R) w')) (fun i _ => 365 - (intOf i).toNat)
      case atStart => exact ⟨0, by omega, rfl, _, H2⟩
      case round =>
        obtain ⟨k, hk, rfl, v, H3⟩ := hrel
        clear H2
        by_cases hlt : k < 365
        · obtain ⟨-, -, f2⟩ := rFacts H3.out
          have HB := Lib.hid (St.alloc H3.out [.int .i64 (q), .int .i64 0, .int .i64 0, .int .i64 1] 74)
          clear H3
          go_wp2_with (at_builtin; go_must (refine St.append rfl (.tmp 39) (.tmp 42) _ rfl elemStat rfl HB.out.rot3 (some ⟨wr.heap.size, 0, none⟩) 1 1 [.int .i64 (q), .int .i64 0, .int .i64 0, .int .i64 1] rfl rfl (fun h => by cases h) (fun ad had j u hj => by obtain rfl := Option.some.inj had; (rw [show (⟨wr.heap.size, 0, none⟩ : Addr).add j = ⟨wr.heap.size, j, none⟩ by unfold Addr.add; split <;> simp_all]; exact (St.cell HB.out j).trans hj)) (by simp [Value.oneCell']) (by omega) (by simp [maxLen]; omega) ?_); intro v' w' hS' hnil; obtain ⟨g', cp', rfl, -⟩ := hS'.rowAt (by omega); rw [filled_succ] at hS'; have y2 := St.frozen hS'.rot3 2; have x2 := St.cell hS'.rot3 2; simp only [List.getElem?_cons_succ, List.getElem?_cons_zero] at x2; have H4 := Lib.hid (St.setCell hS'.rot3 2 (.slice (some ⟨g', 0, none⟩) (k + 1) cp')).rot3.drop; clear hS' hnil HB)
          go_roundw
          case rel => exact ⟨k + 1, by omega, by go_num, _, H4⟩
          case measure => simp [intOf]; omega
        · have hk2 : k = 365 := by omega
          obtain ⟨gL, cp, rfl, -⟩ := H3.out.swap.rowAt (by omega)
          have HK2 := Lib.hid hk2
          clear hk2
          have hge : decide ((k : Int) < 365) = false := decide_eq_false (by omega)
          go_wp2_with fail
          go_ret2
          refine ⟨g, gL, cp, rfl, ?_⟩
          unfold rtb
          rw [HST.out]
          have H4 := H3.out
          rw [HK2.out] at H4
          exact H4
  · go_enter Tryd.func30, Tryd.ntmps30
    go_wp2_with fail
    have H : Hid (St c (rhd w.heap.size 12 M.d (.slice none 0 0) :: row 74 4 (.slice none 0 0) 0 [] :: R) (w.alloc (.cells #[.int .i64 12, .int .i64 M.d, .slice none 0 0] 72))) := Lib.hid ((HS.out.nilRow _ _).alloc _ _)
    clear HS
    generalize w.alloc (.cells #[.int .i64 12, .int .i64 M.d, .slice none 0 0] 72) = w1 at *
    generalize w.heap.size = g at *
    refine (rRange_is c _ g 12 M _ _ H.out HM.out).mono ?_
    rintro e' w2 ⟨rfl, hq⟩
    simp only []
    have H2 := Lib.hid (H.out.of_quiet hq)
    clear hq H
    have hq := HQ.out
    by_cases hlt2 : q < 2
    · obtain rfl : A = 2 := by have := HA.out; rw [if_neg (by omega)] at this; exact this.symm
      go_wp2_with fail
      clear hq HQ HA
      go_loopw [8] (fun i w' => ∃ k : Nat, k ≤ 365 ∧ i = .int .i64 (k : Nat) ∧ ∃ v, Hid (St c (rhd g 12 M.d v :: row 74 4 v k (filled (2) k) :: R) w')) (fun i _ => 365 - (intOf i).toNat)
      case atStart => exact ⟨0, by omega, rfl, _, H2⟩
      case round =>
        obtain ⟨k, hk, rfl, v, H3⟩ := hrel
        clear H2
        by_cases hlt : k < 365
        · obtain ⟨-, -, f2⟩ := rFacts H3.out
          have HB := Lib.hid (St.alloc H3.out [.int .i64 (2), .int .i64 0, .int .i64 0, .int .i64 1] 74)
          clear H3
          go_wp2_with (at_builtin; go_must (refine St.append rfl (.tmp 39) (.tmp 42) _ rfl elemStat rfl HB.out.rot3 (some ⟨wr.heap.size, 0, none⟩) 1 1 [.int .i64 (2), .int .i64 0, .int .i64 0, .int .i64 1] rfl rfl (fun h => by cases h) (fun ad had j u hj => by obtain rfl := Option.some.inj had; (rw [show (⟨wr.heap.size, 0, none⟩ : Addr).add j = ⟨wr.heap.size, j, none⟩ by unfold Addr.add; split <;> simp_all]; exact (St.cell HB.out j).trans hj)) (by simp [Value.oneCell']) (by omega) (by simp [maxLen]; omega) ?_); intro v' w' hS' hnil; obtain ⟨g', cp', rfl, -⟩ := hS'.rowAt (by omega); rw [filled_succ] at hS'; have y2 := St.frozen hS'.rot3 2; have x2 := St.cell hS'.rot3 2; simp only [List.getElem?_cons_succ, List.getElem?_cons_zero] at x2; have H4 := Lib.hid (St.setCell hS'.rot3 2 (.slice (some ⟨g', 0, none⟩) (k + 1) cp')).rot3.drop; clear hS' hnil HB)
          go_roundw
          case rel => exact ⟨k + 1, by omega, by go_num, _, H4⟩
          case measure => simp [intOf]; omega
        · have hk2 : k = 365 := by omega
          obtain ⟨gL, cp, rfl, -⟩ := H3.out.swap.rowAt (by omega)
          have HK2 := Lib.hid hk2
          clear hk2
          have hge : decide ((k : Int) < 365) = false := decide_eq_false (by omega)
          go_wp2_with fail
          go_ret2
          refine ⟨g, gL, cp, rfl, ?_⟩
          unfold rtb
          rw [HST.out]
          have H4 := H3.out
          rw [HK2.out] at H4
          exact H4
    · obtain rfl : q = A := by
        have := HA.out
        by_cases h : 2 < q
        · rw [if_pos h] at this; exact this
        · rw [if_neg h] at this; omega
      go_wp2_with fail
      clear hq HQ HA
      go_loopw [8] (fun i w' => ∃ k : Nat, k ≤ 365 ∧ i = .int .i64 (k : Nat) ∧ ∃ v, Hid (St c (rhd g 12 M.d v :: row 74 4 v k (filled (q) k) :: R) w')) (fun i _ => 365 - (intOf i).toNat)
      case atStart => exact ⟨0, by omega, rfl, _, H2⟩
      case round =>
        obtain ⟨k, hk, rfl, v, H3⟩ := hrel
        clear H2
        by_cases hlt : k < 365
        · obtain ⟨-, -, f2⟩ := rFacts H3.out
          have HB := Lib.hid (St.alloc H3.out [.int .i64 (q), .int .i64 0, .int .i64 0, .int .i64 1] 74)
          clear H3
          go_wp2_with (at_builtin; go_must (refine St.append rfl (.tmp 39) (.tmp 42) _ rfl elemStat rfl HB.out.rot3 (some ⟨wr.heap.size, 0, none⟩) 1 1 [.int .i64 (q), .int .i64 0, .int .i64 0, .int .i64 1] rfl rfl (fun h => by cases h) (fun ad had j u hj => by obtain rfl := Option.some.inj had; (rw [show (⟨wr.heap.size, 0, none⟩ : Addr).add j = ⟨wr.heap.size, j, none⟩ by unfold Addr.add; split <;> simp_all]; exact (St.cell HB.out j).trans hj)) (by simp [Value.oneCell']) (by omega) (by simp [maxLen]; omega) ?_); intro v' w' hS' hnil; obtain ⟨g', cp', rfl, -⟩ := hS'.rowAt (by omega); rw [filled_succ] at hS'; have y2 := St.frozen hS'.rot3 2; have x2 := St.cell hS'.rot3 2; simp only [List.getElem?_cons_succ, List.getElem?_cons_zero] at x2; have H4 := Lib.hid (St.setCell hS'.rot3 2 (.slice (some ⟨g', 0, none⟩) (k + 1) cp')).rot3.drop; clear hS' hnil HB)
          go_roundw
          case rel => exact ⟨k + 1, by omega, by go_num, _, H4⟩
          case measure => simp [intOf]; omega
        · have hk2 : k = 365 := by omega
          obtain ⟨gL, cp, rfl, -⟩ := H3.out.swap.rowAt (by omega)
          have HK2 := Lib.hid hk2
          clear hk2
          have hge : decide ((k : Int) < 365) = false := decide_eq_false (by omega)
          go_wp2_with fail
          go_ret2
          refine ⟨g, gL, cp, rfl, ?_⟩
          unfold rtb
          rw [HST.out]
          have H4 := H3.out
          rw [HK2.out] at H4
          exact H4
end Go.Proofs.YtiglncmkinojjaaDoor
