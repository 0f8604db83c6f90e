import Derived.Test.YtnhemnabjlcgeaaTiC
import Derived.Test.YtnhemnabjlcgeaaRg2
import Derived.Shelf.Abstract
import Derived.Shelf.RegionOpen
import Derived.WalkKit
import Derived.OwnWalkIn
import Derived.TacticsInMore
import Derived.LoopNIn
import Derived.LoopIn
import Derived.Lib.Hide
/-! Tiles: All: its function value, and what that tells. -/
namespace Go.Proofs.Ytnhemnabjlcgeaa
set_option linter.unusedSimpArgs false
set_option linter.unusedVariables false
open Go Go.RowKit Go.Shelf
attribute [local go_sem] Oper.semAt_some

def rectV (g : Gd) (k : Int) : Value := .agg #[.int .i64 (g.x k), .int .i64 (g.y k), .int .i64 (g.rw k), .int .i64 (g.rh k)]
def encA (g : Gd) (k : Nat) : Array Value := #[.int .i64 (k : Int), rectV g k]

theorem all_ok (b : Nat) (g : Gd) (w : World) (h : GAt w b g) :
    Calls Try.prog 14 #[.pointer (some ⟨b, 0, none⟩)] w fun e w' => ∃ b2, e = .returned (.func (.func 26) #[] #[.pointer (some ⟨b2, 0, none⟩)]) ∧ w.heap.size ≤ b2 ∧ GAt w' b2 g ∧ Below w.heap.size w w' := by
  have H := Lib.hid (St.alloc (St.top w) (gcells g) 69)
  obtain ⟨f0, f1, f2, f3, f4, f5, f6, f7⟩ := h
  go_enter Try.func14, Try.ntmps14
  go_wp2_with fail
  go_ret
  exact ⟨_, rfl, Nat.le_refl _, gat_of H.out, H.out.below⟩

theorem grown_of {n : Nat} {w w' : World} (hb : Below w.heap.size w w') : w.grownBy w' none := ⟨hb.os, hb.tape, hb.output, hb.size, fun b h _ => hb.block b h⟩
theorem GAt.keep {w w' : World} {b : Nat} {g : Gd} {G : Nat → Prop} (h : GAt w b g) (hk : KeepG G w w') (hb : ¬ G b) : GAt w' b g :=
  ⟨hk.cell hb h.f0, hk.cell hb h.f1, hk.cell hb h.f2, hk.cell hb h.f3, hk.cell hb h.f4, hk.cell hb h.f5, hk.cell hb h.f6, hk.cell hb h.f7⟩
theorem below_drewN (n₀ : Nat) (w : World) (q : Nat) : Below n₀ w (w.drewN q) := ⟨rfl, rfl, rfl, Nat.le_refl _, fun _ _ => rfl⟩
theorem no_depth {n : Nat} : Fence.wide.depth.isSome = true → 1 ≤ n := fun h => by cases h

set_option maxRecDepth 100000 in
set_option maxHeartbeats 2000000 in
theorem all1_in (m l Bs N : Nat) (G : Nat → Prop) (g : Gd) (hg : g.Ok) (hN : g.n = (N : Int)) (hb : ¬ G Bs) (J Jx : List Nat → World → Prop) (W : World) (hJ : ∀ s A B, J s A → Below W.heap.size A B → J s B)
    (hY : ∀ pre x W, J pre W → (pre = List.range x ∧ x < N) → YieldAt Fence.wide 0 Try.prog l (encA g x) W fun e W' =>
      (e = .returned (.bool true) ∧ J (pre ++ [x]) W' ∧ KeepG G W W') ∨ (e = .returned (.bool false) ∧ Jx (pre ++ [x]) W' ∧ KeepG G W W'))
    (hG : GAt W Bs g) (h0 : J [] W) :
    CallsIn Fence.wide m Try.prog 26 #[.func (.yield l) #[] #[], .pointer (some ⟨Bs, 0, none⟩)] W fun e W' => (∃ v, e = .returned v) ∧
      ((∃ ys, ys = List.range N ∧ J ys W') ∨ (∃ pre, (∃ k, k ≤ N ∧ pre = List.range k) ∧ Jx pre W')) := by
  have HG := Lib.hid hg
  have HA := Lib.hid hG
  have HJ := Lib.hid hJ
  have HY := Lib.hid hY
  have H0 := Lib.hid h0
  have HN := Lib.hid hN
  have n1 := hg.n.2
  clear hg hG hJ hY h0
  refine callsIn_of_wp Try.func26 rfl trivial ?_ rfl
  simp only [Try.ntmps26, List.size_toArray, List.length_cons, List.length_nil, Nat.reduceAdd, Nat.reduceSub, Array.replicate_succ, Array.replicate_zero, List.push_toArray, List.append_toArray, List.nil_append, List.cons_append]
  gi_wp2_with (refine ⟨trivial, no_depth, ?_⟩; gi_at_call 12; refine (callsIn_wide.2 (count_ok Bs g _ HA.out HG.out)).mono ?_; rintro e w1 ⟨rfl, q, rfl⟩)
  have H1 : Hid (J [] (W.drewN q)) := Lib.hid (HJ.out _ _ _ H0.out (below_drewN _ _ q))
  clear H0
  gi_loopw [3, 5, 7, 8, 9, 10, 11, 12, 13, 14] (fun _ i _ _ _ _ _ _ _ _ wr => ∃ k : Nat, k ≤ N ∧ i = .int .i64 k ∧ Hid (J (List.range k) wr) ∧ Hid (GAt wr Bs g) ∧ W.heap.size ≤ wr.heap.size) (fun _ i _ _ _ _ _ _ _ _ _ => N - (intOf i).toNat)
  case atStart => exact ⟨0, Nat.zero_le _, rfl, H1, Lib.hid (HA.out.drewN q), Nat.le_refl _⟩
  case round =>
    obtain ⟨k, hk, rfl, HJs, HB, HWS⟩ := hrel
    clear H1
    have hnN : g.n = (N : Int) := HN.out
    by_cases hlt : k < N
    · have k1 : (k : Int) < g.n := by omega
      have HA2 := HB
      have hlt2 : decide ((k : Int) < g.n) = true := decide_eq_true k1
      gi_wp2_with (refine ⟨trivial, no_depth, ?_⟩; gi_at_call 27; refine (callsIn_wide.2 (rect_ok Bs g k _ HA2.out HG.out (by omega) k1)).mono ?_; rintro e w1 ⟨rfl, hb1⟩; have HJ2 := Lib.hid (HJ.out _ _ _ HJs.out (hb1.mono HWS)); have HB2 := Lib.hid (HB.out.below hb1); have HW2 := Nat.le_trans HWS hb1.size; clear hb1; obtain ⟨fn, tmps, assign, body, hy, hR⟩ := YieldAt.anyDepth rfl (m - 1) (HY.out _ k _ HJ2.out ⟨rfl, hlt⟩); dsimp only [encA, rectV] at hy)
      refine ⟨no_depth, hR.mono ?_⟩
      rintro e W3 (⟨rfl, hJ3, hk3⟩ | ⟨rfl, hJx3, -⟩)
      · rw [← List.range_succ] at hJ3
        have HJ3 := Lib.hid hJ3
        have HB3 := Lib.hid (HB2.out.keep hk3 hb)
        have HW3 := Nat.le_trans HW2 hk3.size
        clear hJ3 hk3 hy hR
        gi_wp2
        go_roundw
        case rel => exact ⟨k + 1, by omega, by simp, HJ3, HB3, HW3⟩
        case measure => simp [intOf]; omega
      · rw [← List.range_succ] at hJx3
        have HJ3 := Lib.hid hJx3
        clear hJx3 hy hR
        gi_wp2
        refine bodyPost_ret (results_none rfl _ _ _) rfl ?_
        exact ⟨⟨_, rfl⟩, .inr ⟨_, ⟨k + 1, by omega, rfl⟩, HJ3.out⟩⟩
    · have hlt2 : decide ((k : Int) < g.n) = false := decide_eq_false (by omega)
      have HK : Hid (k = N) := Lib.hid (by omega)
      gi_wp2
      go_end0
      exact ⟨⟨_, rfl⟩, .inl ⟨_, rfl, by rw [← HK.out]; exact HJs.out⟩⟩

theorem all1_tells (Bs N : Nat) (g : Gd) (hg : g.Ok) (hN : g.n = (N : Int)) (w : World) (hG : GAt w Bs g) :
    Tells Try.prog 26 #[.pointer (some ⟨Bs, 0, none⟩)] (encA g) (fun ys => ys = List.range N) (fun pre => ∃ k, k ≤ N ∧ pre = List.range k) (fun pre x => pre = List.range x ∧ x < N) (fun k => k = Bs) w :=
  fun l G J Jx W hW hG2 hJ _ hY h0 => all1_in 0 l Bs N G g hg hN (fun h => (hG2 Bs h).1 rfl) J Jx W hJ hY (hG.below hW) h0
end Go.Proofs.Ytnhemnabjlcgeaa
