import Derived.Test.YtiglncmkinojjaaDoorModelC
namespace Go.Proofs.YtiglncmkinojjaaDoor
set_option linter.unusedSimpArgs false
set_option linter.unusedVariables false
open Go Go.RowKit

def Mo.fresh (most t span wide t0 t1 t2 : Int) : Mo := ⟨most, t, 2 * t + 1, span, wide, t0, t1, t2, List.replicate 365 (0, 0, 0, 0)⟩

set_option maxRecDepth 100000 in
theorem zero_model (w : World) : (zeroValue 63).run Tryd.prog w = .ok (.agg (Array.replicate 1468 (.int .i64 0))) w := by kernel_rfl

theorem flat_zero (n : Nat) : (List.replicate n ((0 : Int), (0 : Int), (0 : Int), (0 : Int))).flatMap st4 = List.replicate (n * 4) (Value.int .i64 0) := by
  induction n with
  | zero => rfl
  | succ n ih =>
    rw [List.replicate_succ, List.flatMap_cons, ih, show (n + 1) * 4 = (n * 4) + 1 + 1 + 1 + 1 by omega]
    rfl

theorem fresh_cells (most t s : Int) : ((((Array.replicate 1468 (Value.int .i64 0)).setIfInBounds 0 (.int .i64 most)).setIfInBounds 1 (.int .i64 t)).setIfInBounds 2 (.int .i64 (2 * t + 1))) = (Mo.fresh most t 0 0 0 0 0).cells.toArray := by
  apply Array.toList_inj.1
  simp only [Array.toList_setIfInBounds, Array.toList_replicate]
  unfold Mo.cells Mo.fresh
  rw [show ((fun s : Int × Int × Int × Int => [Value.int .i64 s.1, .int .i64 s.2.1, .int .i64 s.2.2.1, .int .i64 s.2.2.2]) = st4) from rfl, flat_zero]
  rfl

theorem mdl_set (c : Ctx) (R : List HP) (g : Nat) (M M' : Mo) (i : Nat) (v : Value) (w : World) (hS : St c (mdl g M :: R) w) (h : M.cells.set i v = M'.cells) : St c (mdl g M' :: R) (w.setCell ⟨g, i, none⟩ v) := by
  have := St.setCell hS i v
  rw [h] at this
  exact this

theorem mdlFree {c : Ctx} {R : List HP} {g : Nat} {M : Mo} {w : World} (hS : St c (mdl g M :: R) w) (i : Nat) : w.frozen? ⟨g, i, none⟩ = false := St.frozen hS i

/-- The two tables, as they are laid. -/
structure Tab (w : World) : Prop where
  s0 : w.cell? ⟨0, 0, none⟩ = some (.int .i64 6)
  s1 : w.cell? ⟨0, 1, none⟩ = some (.int .i64 19)
  s2 : w.cell? ⟨0, 2, none⟩ = some (.int .i64 72)
  s3 : w.cell? ⟨0, 3, none⟩ = some (.int .i64 18)
  s4 : w.cell? ⟨0, 4, none⟩ = some (.int .i64 67)
  s5 : w.cell? ⟨0, 5, none⟩ = some (.int .i64 276)
  r0 : w.cell? ⟨1, 0, none⟩ = some (.int .i64 3)
  r1 : w.cell? ⟨1, 1, none⟩ = some (.int .i64 5)
  r2 : w.cell? ⟨1, 2, none⟩ = some (.int .i64 7)
theorem Tab.at {W w : World} {l : List HP} (h : Tab W) (H : St (top W) l w) : Tab w :=
  ⟨top_cell H h.s0, top_cell H h.s1, top_cell H h.s2, top_cell H h.s3, top_cell H h.s4, top_cell H h.s5, top_cell H h.r0, top_cell H h.r1, top_cell H h.r2⟩

theorem fill_at {α : Type} (x z : α) (k n : Nat) (hk : k < n) : (List.replicate k x ++ List.replicate (n - k) z)[k]? = some z := by
  obtain ⟨m, rfl⟩ : ∃ m, n = k + 1 + m := ⟨n - (k + 1), by omega⟩
  rw [show k + 1 + m - k = m + 1 by omega, List.getElem?_append_right (by simp)]
  simp
theorem fill_set {α : Type} (x z : α) (k n : Nat) (hk : k < n) : (List.replicate k x ++ List.replicate (n - k) z).set k x = List.replicate (k + 1) x ++ List.replicate (n - (k + 1)) z := by
  obtain ⟨m, rfl⟩ : ∃ m, n = k + 1 + m := ⟨n - (k + 1), by omega⟩
  rw [show k + 1 + m - k = m + 1 by omega, show k + 1 + m - (k + 1) = m by omega, List.replicate_succ (n := m), List.set_append_right _ _ (by simp)]
  simp [List.replicate_succ', List.append_assoc]

def newMo (most t b0 b1 b2 : Int) (n : Nat) : Mo :=
  ⟨most, t, 2 * t + 1, (most + 2 * t) / (2 * t + 1) + 1, n, b0 + 3 * t, b1 + 5 * t, b2 + 7 * t, List.replicate 365 (if 2 < ((most + 2 * t) / (2 * t + 1) + 1 + 32) / 64 then ((most + 2 * t) / (2 * t + 1) + 1 + 32) / 64 else 2, 0, 0, 1)⟩

/-- So many bits there are. -/
def Wides (span : Int) (n : Nat) : Prop := span ≤ ((2 ^ n : Nat) : Int) ∧ ∀ j, j < n → ((2 ^ j : Nat) : Int) < span

set_option maxRecDepth 100000 in
theorem New10 (W : World) (hT : Tab W) (l : List HP) (t : Int) (w : World) (hS : St (top W) l w) (ht : 0 ≤ t) (ht2 : t ≤ 63) :
    Calls Tryd.prog 24 #[.int .i64 10, .int .i64 t] w fun e' w' => ∃ g n, e' = .returned (.tuple #[.pointer (some ⟨g, 0, none⟩), .int .i64 0]) ∧ Hid (Wides (newMo 1023 t 6 19 72 n).span n) ∧ St (top W) (mdl g (newMo 1023 t 6 19 72 n) :: l) w' := by
  have HS := Lib.hid hS
  have HT := Lib.hid hT
  clear hS hT
  obtain ⟨zs, hzs⟩ : ∃ zs, Array.replicate 1468 (Value.int .i64 0) = zs := ⟨_, rfl⟩
  have hz := fun w => (zero_model w).trans (by rw [hzs])
  have z1 : (zs = #[]) = False := by rw [← hzs]; simp
  have z2 : zs.size = 1468 := by rw [← hzs]; simp
  have z3 := fresh_cells 1023 t 0
  rw [hzs] at z3
  obtain ⟨C, hC⟩ : ∃ C, (Mo.fresh 1023 t 0 0 0 0 0).cells.toArray = C := ⟨_, rfl⟩
  rw [hC] at z3
  have HC := Lib.hid hC
  clear hC hzs
  have hu := Tryd.underlying63
  obtain ⟨sp, hsp⟩ : ∃ sp, (1023 + 2 * t) / (2 * t + 1) = sp := ⟨_, rfl⟩
  obtain ⟨A, hA⟩ : ∃ A, (if 2 < (sp + 1 + 32) / 64 then (sp + 1 + 32) / 64 else 2) = A := ⟨_, rfl⟩
  have HA := Lib.hid hA
  clear hA
  have hsp1 : 0 ≤ sp := by rw [← hsp]; exact Int.ediv_nonneg (by omega) (by omega)
  have hsp2 : sp ≤ 1023 := by rw [← hsp]; exact Int.ediv_le_of_le_mul (by omega) (by omega)
  go_enter Tryd.func24, Tryd.ntmps24
  go_wp2_with fail
  have H : Hid (St (top W) (mdl w.heap.size (Mo.fresh 1023 t 0 0 0 0 0) :: l) (w.alloc (.cells C 63))) := by rw [← HC.out]; exact HS.out.alloc _ _
  generalize w.alloc (.cells C 63) = w1 at *
  generalize w.heap.size = g at *
  clear HS HC hz z1 z2 z3
  obtain ⟨f0, f1, f2, f3, -, -, -, -⟩ := mdlFacts H.out
  have z3 := mdlFree H.out 3
  simp only [Mo.fresh] at f0 f1 f2 f3
  refine wp_region_head_tail 16 (by kernel_rfl) (by kernel_rfl) ?_
  simp only [List.take_succ_cons, List.take_zero, List.drop_succ_cons, List.drop_zero]
  repeat (go_big_quiet_step (fail))
  refine wpQuiet_nil ?_
  intro m
  go_wp2_with fail
  have H2 : Hid (St (top W) (mdl g (Mo.fresh 1023 t (sp + 1) 0 0 0 0) :: l) ((w1.drewN m).setCell ⟨g, 3, none⟩ (.int .i64 (sp + 1)))) := mdl_set _ _ _ _ _ _ _ _ (H.out.drewN m) rfl
  clear H f0 f1 f2 f3 z3
  go_loopw [] (fun w' => ∃ n : Nat, (∀ j, j < n → ((2 ^ j : Nat) : Int) < sp + 1) ∧ n ≤ 12 ∧ Hid (St (top W) (mdl g (Mo.fresh 1023 t (sp + 1) n 0 0 0) :: l) w')) (fun w' => 13 - (match w'.cell? ⟨g, 4, none⟩ with | some v => (intOf v).toNat | none => 0))
  case atStart => exact ⟨0, fun j hj => absurd hj (Nat.not_lt_zero j), by omega, H2⟩
  case round =>
    obtain ⟨n, hn1, hn2, H⟩ := hrel
    obtain ⟨f0, f1, f2, f3, f4, -, -, -⟩ := mdlFacts H.out
    have z4 := mdlFree H.out 4
    simp only [Mo.fresh] at f0 f1 f2 f3 f4
    have HN := Lib.hid hn1
    clear hn1 H2
    obtain ⟨p, hp⟩ : ∃ p : Nat, 2 ^ n = p := ⟨_, rfl⟩
    have hp2 : p ≤ 4096 := by rw [← hp]; exact Nat.pow_le_pow_right (n := 2) (by decide) hn2
    have hsh : wrap64 (2 ^ n) = (p : Int) := by
      have h2 : ((2 : Int) ^ n) = ((2 ^ n : Nat) : Int) := by push_cast; rfl
      rw [h2, hp]; unfold wrap64; omega
    have HPP := Lib.hid hp
    clear hp
    by_cases hlt : (p : Int) < sp + 1
    · have hn3 : n ≤ 11 := by
        rcases Nat.lt_or_ge n 12 with h | h
        · omega
        · have := Nat.pow_le_pow_right (n := 2) (by decide) h
          have := HPP.out
          omega
      go_wp2_with fail
      go_quiet (fail)
      go_wp2_with fail
      have H3 := mdl_set _ _ _ _ (Mo.fresh 1023 t (sp + 1) (n + 1 : Nat) 0 0 0) 4 (.int .i64 ((n : Int) + 1)) _ (H.out.drewN nq) rfl
      obtain ⟨-, -, -, -, f4', -⟩ := mdlFacts H3
      refine ⟨⟨n + 1, ?_, by omega, H3⟩, ?_⟩
      · intro j hj
        rcases Nat.lt_or_ge j n with h | h
        · exact HN.out j h
        · obtain rfl : j = n := by omega
          rw [HPP.out]; exact hlt
      · rw [f4', f4]
        simp [Mo.fresh, intOf]
        omega
    · go_wp2_with fail
      go_quiet (fail)
      go_wp2_with fail
      have HW2 : Hid (Wides (sp + 1) n) := ⟨by rw [HPP.out]; omega, HN.out⟩
      have H3 := Lib.hid (H.out.drewN nq)
      clear H f0 f1 f2 f3 f4 z4 HN HPP hsh hlt hn2
      go_loopw [8, 63] (fun _ i w' => ∃ k : Nat, k ≤ 3 ∧ i = .int .i64 (k : Nat) ∧ Hid (St (top W) (mdl g (Mo.fresh 1023 t (sp + 1) n (if 0 < k then 6 + 3 * t else 0) (if 1 < k then 19 + 5 * t else 0) (if 2 < k then 72 + 7 * t else 0)) :: l) w')) (fun _ i _ => 3 - (intOf i).toNat)
      case atStart => exact ⟨0, by omega, rfl, H3⟩
      case round =>
        obtain ⟨k, hk, rfl, H⟩ := hrel
        clear H3
        obtain ⟨tb0, tb1, tb2, tb3, tb4, tb5, tb6, tb7, tb8⟩ := HT.out.at H.out
        obtain rfl | rfl | rfl | rfl : k = 0 ∨ k = 1 ∨ k = 2 ∨ k = 3 := by omega
        · have z5 := mdlFree H.out 5
          obtain ⟨f0, f1, f2, f3, f4, f5, f6, f7⟩ := mdlFacts H.out
          simp only [Mo.fresh] at f0 f1 f2 f3 f4 f5 f6 f7
          go_wp2_with fail
          refine wp_region_head_tail 16 (by kernel_rfl) (by kernel_rfl) ?_
          simp only [List.take_succ_cons, List.take_zero, List.drop_succ_cons, List.drop_zero]
          repeat (go_big_quiet_step (fail))
          refine wpQuiet_nil ?_
          intro m
          go_wp2_with fail
          exact ⟨⟨1, by omega, rfl, mdl_set _ _ _ _ (Mo.fresh 1023 t (sp + 1) n (if 0 < 1 then 6 + 3 * t else 0) (if 1 < 1 then 19 + 5 * t else 0) (if 2 < 1 then 72 + 7 * t else 0)) 5 (.int .i64 (6 + 3 * t)) _ (H.out.drewN _) rfl⟩, by decide⟩
        · have z5 := mdlFree H.out 6
          obtain ⟨f0, f1, f2, f3, f4, f5, f6, f7⟩ := mdlFacts H.out
          simp only [Mo.fresh] at f0 f1 f2 f3 f4 f5 f6 f7
          go_wp2_with fail
          refine wp_region_head_tail 16 (by kernel_rfl) (by kernel_rfl) ?_
          simp only [List.take_succ_cons, List.take_zero, List.drop_succ_cons, List.drop_zero]
          repeat (go_big_quiet_step (fail))
          refine wpQuiet_nil ?_
          intro m
          go_wp2_with fail
          exact ⟨⟨2, by omega, rfl, mdl_set _ _ _ _ (Mo.fresh 1023 t (sp + 1) n (if 0 < 2 then 6 + 3 * t else 0) (if 1 < 2 then 19 + 5 * t else 0) (if 2 < 2 then 72 + 7 * t else 0)) 6 (.int .i64 (19 + 5 * t)) _ (H.out.drewN _) rfl⟩, by decide⟩
        · have z5 := mdlFree H.out 7
          obtain ⟨f0, f1, f2, f3, f4, f5, f6, f7⟩ := mdlFacts H.out
          simp only [Mo.fresh] at f0 f1 f2 f3 f4 f5 f6 f7
          go_wp2_with fail
          refine wp_region_head_tail 16 (by kernel_rfl) (by kernel_rfl) ?_
          simp only [List.take_succ_cons, List.take_zero, List.drop_succ_cons, List.drop_zero]
          repeat (go_big_quiet_step (fail))
          refine wpQuiet_nil ?_
          intro m
          go_wp2_with fail
          exact ⟨⟨3, by omega, rfl, mdl_set _ _ _ _ (Mo.fresh 1023 t (sp + 1) n (if 0 < 3 then 6 + 3 * t else 0) (if 1 < 3 then 19 + 5 * t else 0) (if 2 < 3 then 72 + 7 * t else 0)) 7 (.int .i64 (72 + 7 * t)) _ (H.out.drewN _) rfl⟩, by decide⟩
        · go_wp2_with fail
          have H3 : Hid (St (top W) (mdl g ⟨1023, t, 2 * t + 1, sp + 1, n, 6 + 3 * t, 19 + 5 * t, 72 + 7 * t, List.replicate 0 (A, 0, 0, 1) ++ List.replicate 365 (0, 0, 0, 0)⟩ :: l) wr) := H.out
          clear H tb0 tb1 tb2 tb3 tb4 tb5 tb6 tb7 tb8 hk
          go_loopw [9, 83] (fun _ i w' => ∃ k : Nat, k ≤ 365 ∧ i = .int .i64 (k : Nat) ∧ Hid (St (top W) (mdl g ⟨1023, t, 2 * t + 1, sp + 1, n, 6 + 3 * t, 19 + 5 * t, 72 + 7 * t, List.replicate k (A, 0, 0, 1) ++ List.replicate (365 - k) (0, 0, 0, 0)⟩ :: l) w')) (fun _ i _ => 365 - (intOf i).toNat)
          case atStart => exact ⟨0, by omega, rfl, H3⟩
          case round =>
            obtain ⟨k, hk, rfl, H⟩ := hrel
            clear H3
            by_cases hk2 : k < 365
            · obtain ⟨f0, f1, f2, f3, f4, f5, f6, f7⟩ := mdlFacts H.out
              simp only at f0 f1 f2 f3 f4 f5 f6 f7
              have y0 := mdlFree H.out (8 + k * 4)
              have y1 := mdlFree H.out (8 + k * 4 + 1)
              have y2 := mdlFree H.out (8 + k * 4 + 2)
              have y3 := mdlFree H.out (8 + k * 4 + 3)
              obtain ⟨c0, c1, c2, c3⟩ := statFacts H.out (k := k) (s := (0, 0, 0, 0)) (fill_at _ _ k 365 hk2)
              simp only at c0 c1 c2 c3
              go_wp2_with fail
              refine wp_region_head_tail 13 (by kernel_rfl) (by kernel_rfl) ?_
              simp only [List.take_succ_cons, List.take_zero, List.drop_succ_cons, List.drop_zero]
              repeat (go_big_quiet_step (fail))
              refine wpQuiet_nil ?_
              intro m
              go_wp2_with fail
              refine ⟨⟨k + 1, by omega, by go_num, ?_⟩, by simp [intOf]; omega⟩
              have H4 := mdl_stat (H.out.drewN m) (k := k) (by simp; omega) (if 2 < (sp + 1 + 32) / 64 then (sp + 1 + 32) / 64 else 2) 0 0 1
              rw [HA.out] at H4 ⊢
              simp only [fill_set _ _ k 365 hk2] at H4
              exact H4
            · obtain rfl : k = 365 := by omega
              go_wp2_with fail
              go_ret2
              refine ⟨g, n, rfl, ?_, ?_⟩
              · simp only [newMo, hsp]; exact HW2
              · have H4 := H.out
                simp only [newMo, hsp]
                rw [HA.out]
                exact H4

set_option maxRecDepth 100000 in
theorem New12 (W : World) (hT : Tab W) (l : List HP) (t : Int) (w : World) (hS : St (top W) l w) (ht : 0 ≤ t) (ht2 : t ≤ 63) :
    Calls Tryd.prog 24 #[.int .i64 12, .int .i64 t] w fun e' w' => ∃ g n, e' = .returned (.tuple #[.pointer (some ⟨g, 0, none⟩), .int .i64 0]) ∧ Hid (Wides (newMo 4095 t 18 67 276 n).span n) ∧ St (top W) (mdl g (newMo 4095 t 18 67 276 n) :: l) w' := by
  have HS := Lib.hid hS
  have HT := Lib.hid hT
  clear hS hT
  obtain ⟨zs, hzs⟩ : ∃ zs, Array.replicate 1468 (Value.int .i64 0) = zs := ⟨_, rfl⟩
  have hz := fun w => (zero_model w).trans (by rw [hzs])
  have z1 : (zs = #[]) = False := by rw [← hzs]; simp
  have z2 : zs.size = 1468 := by rw [← hzs]; simp
  have z3 := fresh_cells 4095 t 0
  rw [hzs] at z3
  obtain ⟨C, hC⟩ : ∃ C, (Mo.fresh 4095 t 0 0 0 0 0).cells.toArray = C := ⟨_, rfl⟩
  rw [hC] at z3
  have HC := Lib.hid hC
  clear hC hzs
  have hu := Tryd.underlying63
  obtain ⟨sp, hsp⟩ : ∃ sp, (4095 + 2 * t) / (2 * t + 1) = sp := ⟨_, rfl⟩
  obtain ⟨A, hA⟩ : ∃ A, (if 2 < (sp + 1 + 32) / 64 then (sp + 1 + 32) / 64 else 2) = A := ⟨_, rfl⟩
  have HA := Lib.hid hA
  clear hA
  have hsp1 : 0 ≤ sp := by rw [← hsp]; exact Int.ediv_nonneg (by omega) (by omega)
  have hsp2 : sp ≤ 4095 := by rw [← hsp]; exact Int.ediv_le_of_le_mul (by omega) (by omega)
  go_enter Tryd.func24, Tryd.ntmps24
  go_wp2_with fail
  have H : Hid (St (top W) (mdl w.heap.size (Mo.fresh 4095 t 0 0 0 0 0) :: l) (w.alloc (.cells C 63))) := by rw [← HC.out]; exact HS.out.alloc _ _
  generalize w.alloc (.cells C 63) = w1 at *
  generalize w.heap.size = g at *
  clear HS HC hz z1 z2 z3
  obtain ⟨f0, f1, f2, f3, -, -, -, -⟩ := mdlFacts H.out
  have z3 := mdlFree H.out 3
  simp only [Mo.fresh] at f0 f1 f2 f3
  refine wp_region_head_tail 16 (by kernel_rfl) (by kernel_rfl) ?_
  simp only [List.take_succ_cons, List.take_zero, List.drop_succ_cons, List.drop_zero]
  repeat (go_big_quiet_step (fail))
  refine wpQuiet_nil ?_
  intro m
  go_wp2_with fail
  have H2 : Hid (St (top W) (mdl g (Mo.fresh 4095 t (sp + 1) 0 0 0 0) :: l) ((w1.drewN m).setCell ⟨g, 3, none⟩ (.int .i64 (sp + 1)))) := mdl_set _ _ _ _ _ _ _ _ (H.out.drewN m) rfl
  clear H f0 f1 f2 f3 z3
  go_loopw [] (fun w' => ∃ n : Nat, (∀ j, j < n → ((2 ^ j : Nat) : Int) < sp + 1) ∧ n ≤ 12 ∧ Hid (St (top W) (mdl g (Mo.fresh 4095 t (sp + 1) n 0 0 0) :: l) w')) (fun w' => 13 - (match w'.cell? ⟨g, 4, none⟩ with | some v => (intOf v).toNat | none => 0))
  case atStart => exact ⟨0, fun j hj => absurd hj (Nat.not_lt_zero j), by omega, H2⟩
  case round =>
    obtain ⟨n, hn1, hn2, H⟩ := hrel
    obtain ⟨f0, f1, f2, f3, f4, -, -, -⟩ := mdlFacts H.out
    have z4 := mdlFree H.out 4
    simp only [Mo.fresh] at f0 f1 f2 f3 f4
    have HN := Lib.hid hn1
    clear hn1 H2
    obtain ⟨p, hp⟩ : ∃ p : Nat, 2 ^ n = p := ⟨_, rfl⟩
    have hp2 : p ≤ 4096 := by rw [← hp]; exact Nat.pow_le_pow_right (n := 2) (by decide) hn2
    have hsh : wrap64 (2 ^ n) = (p : Int) := by
      have h2 : ((2 : Int) ^ n) = ((2 ^ n : Nat) : Int) := by push_cast; rfl
      rw [h2, hp]; unfold wrap64; omega
    have HPP := Lib.hid hp
    clear hp
    by_cases hlt : (p : Int) < sp + 1
    · have hn3 : n ≤ 11 := by
        rcases Nat.lt_or_ge n 12 with h | h
        · omega
        · have := Nat.pow_le_pow_right (n := 2) (by decide) h
          have := HPP.out
          omega
      go_wp2_with fail
      go_quiet (fail)
      go_wp2_with fail
      have H3 := mdl_set _ _ _ _ (Mo.fresh 4095 t (sp + 1) (n + 1 : Nat) 0 0 0) 4 (.int .i64 ((n : Int) + 1)) _ (H.out.drewN nq) rfl
      obtain ⟨-, -, -, -, f4', -⟩ := mdlFacts H3
      refine ⟨⟨n + 1, ?_, by omega, H3⟩, ?_⟩
      · intro j hj
        rcases Nat.lt_or_ge j n with h | h
        · exact HN.out j h
        · obtain rfl : j = n := by omega
          rw [HPP.out]; exact hlt
      · rw [f4', f4]
        simp [Mo.fresh, intOf]
        omega
    · go_wp2_with fail
      go_quiet (fail)
      go_wp2_with fail
      have HW2 : Hid (Wides (sp + 1) n) := ⟨by rw [HPP.out]; omega, HN.out⟩
      have H3 := Lib.hid (H.out.drewN nq)
      clear H f0 f1 f2 f3 f4 z4 HN HPP hsh hlt hn2
      go_loopw [8, 63] (fun _ i w' => ∃ k : Nat, k ≤ 3 ∧ i = .int .i64 (k : Nat) ∧ Hid (St (top W) (mdl g (Mo.fresh 4095 t (sp + 1) n (if 0 < k then 18 + 3 * t else 0) (if 1 < k then 67 + 5 * t else 0) (if 2 < k then 276 + 7 * t else 0)) :: l) w')) (fun _ i _ => 3 - (intOf i).toNat)
      case atStart => exact ⟨0, by omega, rfl, H3⟩
      case round =>
        obtain ⟨k, hk, rfl, H⟩ := hrel
        clear H3
        obtain ⟨tb0, tb1, tb2, tb3, tb4, tb5, tb6, tb7, tb8⟩ := HT.out.at H.out
        obtain rfl | rfl | rfl | rfl : k = 0 ∨ k = 1 ∨ k = 2 ∨ k = 3 := by omega
        · have z5 := mdlFree H.out 5
          obtain ⟨f0, f1, f2, f3, f4, f5, f6, f7⟩ := mdlFacts H.out
          simp only [Mo.fresh] at f0 f1 f2 f3 f4 f5 f6 f7
          go_wp2_with fail
          refine wp_region_head_tail 16 (by kernel_rfl) (by kernel_rfl) ?_
          simp only [List.take_succ_cons, List.take_zero, List.drop_succ_cons, List.drop_zero]
          repeat (go_big_quiet_step (fail))
          refine wpQuiet_nil ?_
          intro m
          go_wp2_with fail
          exact ⟨⟨1, by omega, rfl, mdl_set _ _ _ _ (Mo.fresh 4095 t (sp + 1) n (if 0 < 1 then 18 + 3 * t else 0) (if 1 < 1 then 67 + 5 * t else 0) (if 2 < 1 then 276 + 7 * t else 0)) 5 (.int .i64 (18 + 3 * t)) _ (H.out.drewN _) rfl⟩, by decide⟩
        · have z5 := mdlFree H.out 6
          obtain ⟨f0, f1, f2, f3, f4, f5, f6, f7⟩ := mdlFacts H.out
          simp only [Mo.fresh] at f0 f1 f2 f3 f4 f5 f6 f7
          go_wp2_with fail
          refine wp_region_head_tail 16 (by kernel_rfl) (by kernel_rfl) ?_
          simp only [List.take_succ_cons, List.take_zero, List.drop_succ_cons, List.drop_zero]
          repeat (go_big_quiet_step (fail))
          refine wpQuiet_nil ?_
          intro m
          go_wp2_with fail
          exact ⟨⟨2, by omega, rfl, mdl_set _ _ _ _ (Mo.fresh 4095 t (sp + 1) n (if 0 < 2 then 18 + 3 * t else 0) (if 1 < 2 then 67 + 5 * t else 0) (if 2 < 2 then 276 + 7 * t else 0)) 6 (.int .i64 (67 + 5 * t)) _ (H.out.drewN _) rfl⟩, by decide⟩
        · have z5 := mdlFree H.out 7
          obtain ⟨f0, f1, f2, f3, f4, f5, f6, f7⟩ := mdlFacts H.out
          simp only [Mo.fresh] at f0 f1 f2 f3 f4 f5 f6 f7
          go_wp2_with fail
          refine wp_region_head_tail 16 (by kernel_rfl) (by kernel_rfl) ?_
          simp only [List.take_succ_cons, List.take_zero, List.drop_succ_cons, List.drop_zero]
          repeat (go_big_quiet_step (fail))
          refine wpQuiet_nil ?_
          intro m
          go_wp2_with fail
          exact ⟨⟨3, by omega, rfl, mdl_set _ _ _ _ (Mo.fresh 4095 t (sp + 1) n (if 0 < 3 then 18 + 3 * t else 0) (if 1 < 3 then 67 + 5 * t else 0) (if 2 < 3 then 276 + 7 * t else 0)) 7 (.int .i64 (276 + 7 * t)) _ (H.out.drewN _) rfl⟩, by decide⟩
        · go_wp2_with fail
          have H3 : Hid (St (top W) (mdl g ⟨4095, t, 2 * t + 1, sp + 1, n, 18 + 3 * t, 67 + 5 * t, 276 + 7 * t, List.replicate 0 (A, 0, 0, 1) ++ List.replicate 365 (0, 0, 0, 0)⟩ :: l) wr) := H.out
          clear H tb0 tb1 tb2 tb3 tb4 tb5 tb6 tb7 tb8 hk
          go_loopw [9, 83] (fun _ i w' => ∃ k : Nat, k ≤ 365 ∧ i = .int .i64 (k : Nat) ∧ Hid (St (top W) (mdl g ⟨4095, t, 2 * t + 1, sp + 1, n, 18 + 3 * t, 67 + 5 * t, 276 + 7 * t, List.replicate k (A, 0, 0, 1) ++ List.replicate (365 - k) (0, 0, 0, 0)⟩ :: l) w')) (fun _ i _ => 365 - (intOf i).toNat)
          case atStart => exact ⟨0, by omega, rfl, H3⟩
          case round =>
            obtain ⟨k, hk, rfl, H⟩ := hrel
            clear H3
            by_cases hk2 : k < 365
            · obtain ⟨f0, f1, f2, f3, f4, f5, f6, f7⟩ := mdlFacts H.out
              simp only at f0 f1 f2 f3 f4 f5 f6 f7
              have y0 := mdlFree H.out (8 + k * 4)
              have y1 := mdlFree H.out (8 + k * 4 + 1)
              have y2 := mdlFree H.out (8 + k * 4 + 2)
              have y3 := mdlFree H.out (8 + k * 4 + 3)
              obtain ⟨c0, c1, c2, c3⟩ := statFacts H.out (k := k) (s := (0, 0, 0, 0)) (fill_at _ _ k 365 hk2)
              simp only at c0 c1 c2 c3
              go_wp2_with fail
              refine wp_region_head_tail 13 (by kernel_rfl) (by kernel_rfl) ?_
              simp only [List.take_succ_cons, List.take_zero, List.drop_succ_cons, List.drop_zero]
              repeat (go_big_quiet_step (fail))
              refine wpQuiet_nil ?_
              intro m
              go_wp2_with fail
              refine ⟨⟨k + 1, by omega, by go_num, ?_⟩, by simp [intOf]; omega⟩
              have H4 := mdl_stat (H.out.drewN m) (k := k) (by simp; omega) (if 2 < (sp + 1 + 32) / 64 then (sp + 1 + 32) / 64 else 2) 0 0 1
              rw [HA.out] at H4 ⊢
              simp only [fill_set _ _ k 365 hk2] at H4
              exact H4
            · obtain rfl : k = 365 := by omega
              go_wp2_with fail
              go_ret2
              refine ⟨g, n, rfl, ?_, ?_⟩
              · simp only [newMo, hsp]; exact HW2
              · have H4 := H.out
                simp only [newMo, hsp]
                rw [HA.out]
                exact H4

theorem newMo_fits (most t b0 b1 b2 : Int) (n : Nat) (hm : most = 1023 ∨ most = 4095) (ht : 0 ≤ t) (ht2 : t ≤ 63) (hw : Wides (newMo most t b0 b1 b2 n).span n) : (newMo most t b0 b1 b2 n).Fits := by
  have h1 : 0 ≤ (most + 2 * t) / (2 * t + 1) := Int.ediv_nonneg (by omega) (by omega)
  have h2 : (most + 2 * t) / (2 * t + 1) ≤ 4095 := Int.ediv_le_of_le_mul (by omega) (by omega)
  have h3 : n ≤ 12 := by
    rcases Nat.lt_or_ge 12 n with h | h
    · have := hw.2 12 h
      simp only [newMo] at this
      omega
    · exact h
  refine ⟨?_, ?_, ht, ht2, rfl, ?_, ?_, ?_, ?_, List.length_replicate ..⟩ <;> simp only [newMo] <;> omega

end Go.Proofs.YtiglncmkinojjaaDoor
