import Derived.Test.YtjceegplkjfdoaaPQax1
import Derived.Test.YtjceegplkjfdoaaPQax2
import Derived.Test.YtjceegplkjfdoaaPQax3
import Derived.Test.YtjceegplkjfdoaaPxB
import Derived.WalkSmall
/-! The tiny frame, written by both formats. -/
namespace Go.Proofs.Ytjceegplkjfdoaa
set_option linter.unusedSimpArgs false
set_option linter.unusedVariables false
open Go Go.RowKit Go.Proofs.Ytjceegplkjfdoaa.PQa Go.Proofs.YtjceegplkjfdoaaW.PrintWords

theorem St.append2 {c : Ctx} {R : List HP} {w : World} {P : Program} {ops : Array Oper} {rest : List Oper} {o : Oper} {a : Act} {Q : Exit → Act → World → Prop} (hgd : o.guard = none) (s x : Operand) (t : TypeId)
    (ho : o.op = .call { callee := .builtin .append, args := #[s, x], argTypes := #[t, t] }) {e : TypeId} {z : Value} {bytes : Nat} (E : Elem P t e z 1 bytes)
    {v : Value} {n : Nat} {xs : List Value} (hs : a.eval s = v) (hS : St c (row e 1 v n xs :: R) w) (u1 u2 : Value) (T : TypeId) (hx : a.eval x = .slice (some ⟨w.heap.size, 0, none⟩) 2 2) (h1 : u1.oneCell' = true) (h2 : u2.oneCell' = true)
    (hb : (n + 2) * bytes ≤ 140737488355328) (hb2 : n + 2 ≤ maxLen)
    (h : ∀ g' cp' w', n + 2 ≤ cp' → St c (row e 1 (.slice (some ⟨g', 0, none⟩) (n + 2) cp') (n + 2) (xs ++ [u1, u2]) :: R) w' → wpList P ops Q rest (a.put o.dst (.slice (some ⟨g', 0, none⟩) (n + 2) cp')) w') : wpList P ops Q (o :: rest) a (w.alloc (.cells #[u1, u2] T)) := by
  refine St.append hgd s x t ho E hs (hS.allocSkip _) (some ⟨w.heap.size, 0, none⟩) 2 2 [u1, u2] hx rfl (fun h => by cases h) ?_ ?_ hb hb2 fun v' w' h' _ => ?_
  rotate_right
  · obtain ⟨g', cp', rfl, hc', _⟩ := h'.rowAt (by omega)
    exact h g' cp' w' hc' h'
  · intro ad had
    obtain rfl := Option.some.inj had
    exact cell_two_new w u1 u2 T
  · intro y hy
    simp at hy
    rcases hy with rfl | rfl <;> assumption

theorem sizePlanar_f : pixel_sizePlanar.f 40 1 1 10 false = some 6 := by decide +kernel
theorem valid_tiny : plane_Valid.f 40 1 1 10 false [[1], [2], [769]] = some 0 := by decide +kernel
theorem mayV_tiny : pixel_mayV210.f 40 1 1 10 false = some 0 := by decide +kernel
theorem shaped_tiny : plane_Shaped.f 40 1 1 10 false = some 0 := by decide +kernel

set_option maxHeartbeats 2000000 in
set_option maxRecDepth 100000 in
theorem writePlanar_tiny (c : Ctx) (R : List HP) (w : World) (q a b d : Nat) (hS : St c (tinyQ q a b d :: tinyA d 769 :: tinyA b 2 :: tinyA a 1 :: R) w) :
    Calls Try.prog 63 #[tinyV q] w fun e w' => ∃ g cap, e = .returned (.slice (some ⟨g, 0, none⟩) 6 cap) ∧ St c (row 5 1 (.slice (some ⟨g, 0, none⟩) 6 cap) 6 (bytesV [1, 0, 2, 0, 1, 3]) :: tinyQ q a b d :: tinyA d 769 :: tinyA b 2 :: tinyA a 1 :: R) w' := by
  have HS := Lib.hid (hS.alloc' rfl [.int .i64 1, .int .i64 1, .int .i64 10, .bool false, .slice (some ⟨q, 0, none⟩) 3 3] 27)
  clear hS
  unfold tinyV
  go_enter Try.func63, Try.ntmps63
  go_wp2_with fail
  refine (pixel_sizePlanar.calls 40 1 1 10 false 6 _ sizePlanar_f).mono ?_
  rintro en w1 ⟨rfl, hb⟩
  have HS1 := Lib.hid (HS.out.of_below hb)
  clear HS hb
  go_wp2_with (at_make; go_must (refine St.makeCap rfl _ _ _ rfl elemU8 6 rfl rfl HS1.out (by omega) (by unfold maxLen; omega) ?_))
  intro w2 hS2
  have HS2 := Lib.hid hS2
  have HF := Lib.hid (St.cells5 hS2 mm1)
  clear hS2 HS1
  obtain ⟨-, -, -, -, f4⟩ := HF.out
  go_wp2_with fail
  clear f4 HF
  have HO := Lib.hid HS2.out.swap.drop
  clear HS2
  generalize w1.heap.size = go at *
  refine wp_loop_rounds 4 ?_
  rw [rounds_succ]
  have q0 := St.cells_mem HO.out mm1 0
  have p0 := St.cells_mem HO.out mm4 0
  simp only [List.getElem?_cons_zero, List.getElem?_cons_succ, oneV] at q0 p0
  go_wp2_with fail
  refine wp_loop_rounds 2 ?_
  rw [rounds_succ]
  go_wp2_with ((with_reducible refine at_dst 32 rfl ?_); go_must (refine St.append2 rfl _ _ _ rfl elemU8 rfl HO.out _ _ _ rfl rfl rfl (by omega) (by unfold maxLen; omega) ?_))
  intro g1 cp1 x1 hcp hS
  have HO1 := Lib.hid hS
  clear hcp hS HO q0 p0
  go_wp2_with fail
  rw [rounds_succ]
  go_wp2_with fail
  rw [rounds_succ]
  have q0 := St.cells_mem HO1.out mm1 1
  have p0 := St.cells_mem HO1.out mm3 0
  simp only [List.getElem?_cons_zero, List.getElem?_cons_succ, oneV] at q0 p0
  go_wp2_with fail
  refine wp_loop_rounds 2 ?_
  rw [rounds_succ]
  go_wp2_with ((with_reducible refine at_dst 32 rfl ?_); go_must (refine St.append2 rfl _ _ _ rfl elemU8 rfl HO1.out _ _ _ rfl rfl rfl (by omega) (by unfold maxLen; omega) ?_))
  intro g2 cp2 x2 hcp hS
  have HO2 := Lib.hid hS
  clear hcp hS HO1 q0 p0
  go_wp2_with fail
  rw [rounds_succ]
  go_wp2_with fail
  rw [rounds_succ]
  have q0 := St.cells_mem HO2.out mm1 2
  have p0 := St.cells_mem HO2.out mm2 0
  simp only [List.getElem?_cons_zero, List.getElem?_cons_succ, oneV] at q0 p0
  go_wp2_with fail
  refine wp_loop_rounds 2 ?_
  rw [rounds_succ]
  go_wp2_with ((with_reducible refine at_dst 32 rfl ?_); go_must (refine St.append2 rfl _ _ _ rfl elemU8 rfl HO2.out _ _ _ rfl rfl rfl (by omega) (by unfold maxLen; omega) ?_))
  intro g3 cp3 x3 hcp hS
  have HO3 := Lib.hid hS
  clear hcp hS HO2 q0 p0
  go_wp2_with fail
  rw [rounds_succ]
  go_wp2_with fail
  rw [rounds_succ]
  go_wp2_with fail
  go_ret
  exact ⟨_, _, rfl, HO3.out⟩

end Go.Proofs.Ytjceegplkjfdoaa
