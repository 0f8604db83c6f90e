import Derived.Test.YtdoikehkibefpaaMem
/-! Lent lists. -/
namespace Go.Proofs.Ytdoikehkibefpaa
set_option linter.unusedSimpArgs false
set_option linter.unusedVariables false
open Go Go.RowKit Go.Proofs.YtdoikehkibefpaaW.PrintWords

def lentL (l : List Int) : List Int := l ++ List.replicate 7 60000
theorem lentL_length (l : List Int) : (lentL l).length = l.length + 7 := by simp [lentL]
def lentV (g : Nat) (l : List Int) : Value := .slice (some ⟨g, 0, none⟩) (l.length + 7) (l.length + 7)
def headV (g : Nat) (l : List Int) : Value := .slice (some ⟨g, 0, none⟩) l.length (l.length + 7)
def lentRow (g : Nat) (l : List Int) : HP := row 72 1 (lentV g l) (l.length + 7) (nums .u16 (lentL l))
def lentIs (va : Value) (gL : Nat) (gs : List Nat) (ls : List (List Int)) : HP :=
  (row 53 1 va ls.length (List.zipWith lentV gs ls)).star ((row 53 1 (.slice (some ⟨gL, 0, none⟩) (ls.length + 2) (ls.length + 2)) (ls.length + 2) (List.zipWith headV gs ls ++ [.slice none 0 0, .slice none 0 0])).star (Sep (List.zipWith lentRow gs ls)))

theorem fill_step (l : List Int) (j m : Nat) (hj : j < m) : (nums .u16 (l ++ (List.replicate j 60000 ++ List.replicate (m - j) 0))).set (l.length + j) (.int .u16 60000) = nums .u16 (l ++ (List.replicate (j + 1) 60000 ++ List.replicate (m - (j + 1)) 0)) := by
  have e : m - j = (m - (j + 1)) + 1 := by omega
  have h1 : (nums .u16 (l ++ (List.replicate j 60000 ++ List.replicate (m - j) 0))) = nums .u16 (l ++ List.replicate j 60000) ++ nums .u16 (List.replicate (m - j) 0) := by rw [← List.append_assoc, nums_append]
  have h2 : (nums .u16 (l ++ List.replicate j 60000)).length = l.length + j := by rw [nums_length]; simp
  rw [h1, List.set_append_right _ _ (by omega), h2, Nat.sub_self, e, List.replicate_succ]
  have h3 : (nums .u16 (0 :: List.replicate (m - (j + 1)) 0)).set 0 (.int .u16 60000) = nums .u16 ([60000] ++ List.replicate (m - (j + 1)) 0) := rfl
  rw [h3, ← nums_append, List.append_assoc, List.replicate_succ', List.append_assoc]

set_option maxHeartbeats 1000000 in
set_option maxRecDepth 100000 in
theorem lentList_ok (w : World) (A : Option Addr) (cap : Nat) (l : List Int) (hC : Kd.C (Kd.int .u16) w A l.length l) (hl : l.length * 2 ≤ 140737488351232) :
    Calls Try.prog 40 #[.slice A l.length cap] w fun e w' => ∃ g, e = .returned (lentV g l) ∧ St (top w) [lentRow g l] w' := by
  have HS := Lib.hid (St.top w)
  have HC := Lib.hid hC
  clear hC
  go_enter Try.func40, Try.ntmps40
  go_wp2_with (at_make; go_must (refine St.make1 rfl _ _ _ rfl elemU16 rfl (l.length + 7) rfl rfl HS.out (by omega) (by unfold maxLen; omega) ?_))
  intro g w1 hS1
  have HS1 := Lib.hid hS1
  clear hS1
  go_wp2_with ((with_reducible refine at_dst 11 rfl ?_); go_must (refine St.copyC (ys := nums .u16 l) rfl _ _ _ _ rfl elemU16 rfl rfl (nums_length ..) ?_ (nums_one .u16 l) HS1.out (by omega) ?_))
  · intro h0
    obtain ⟨b, off, rfl, hcell⟩ := C_reads (Kd.C_below HC.out HS1.out.below) h0
    refine ⟨_, rfl, fun j u hj => ?_⟩
    have hjl : j < l.length := by have := (List.getElem?_eq_some_iff.1 hj).1; rwa [nums_length] at this
    rw [Addr.add_lit, hcell j hjl, ← hj]
    simp [nums, List.getD_eq_getElem?_getD, List.getElem?_eq_getElem hjl]
  intro w2 hS2
  have e1 : (nums .u16 l).take (l.length + 7) ++ List.replicate (l.length + 7 - min (l.length + 7) (nums .u16 l).length) (Value.int .u16 0) = nums .u16 (l ++ (List.replicate 0 60000 ++ List.replicate (7 - 0) 0)) := by
    have e0 := nums_length .u16 l
    rw [List.take_of_length_le (by omega), e0, nums_append, show l.length + 7 - min (l.length + 7) l.length = 7 by omega]
    simp [nums]
  rw [e1] at hS2
  have HS2 := Lib.hid hS2
  clear hS2 e1 HS1 HS
  go_wp2_with fail
  go_loopw [4] (fun v w' => ∃ j : Nat, v = .int .i64 ((l.length + j : Nat) : Int) ∧ j ≤ 7 ∧ Hid (St (top w) [row 72 1 (lentV g l) (l.length + 7) (nums .u16 (l ++ (List.replicate j 60000 ++ List.replicate (7 - j) 0)))] w')) (fun v _ => l.length + 7 - (intOf v).toNat)
  case atStart => exact ⟨0, by simp, by omega, HS2⟩
  case round =>
    obtain ⟨j, rfl, hj, hS⟩ := hrel
    by_cases hlt : j < 7
    · have hfz := hS.out.rowAt (by omega)
      obtain ⟨g', cap', e, _, _, hcell, hfr⟩ := hfz
      have e' : g' = g := by unfold lentV at e; cases e; rfl
      subst e'
      have hc := hcell (l.length + j) (by omega)
      have hf := hfr (l.length + j)
      have hx : (nums .u16 (l ++ (List.replicate j 60000 ++ List.replicate (7 - j) 0)))[l.length + j]? = some (.int .u16 0) := by
        simp [nums, List.getElem?_append_right, List.getElem?_replicate, hlt]
        omega
      rw [hx] at hc
      have hnew := hS.out
      unfold lentV at hnew
      have hnew := hnew.setRow (l.length + j) (.int .u16 60000)
      rw [fill_step l j 7 hlt] at hnew
      have HN := Lib.hid hnew
      clear hx hnew hcell hfr hS e
      go_wp2_with fail
      go_roundw
      case rel => exact ⟨j + 1, by go_num, by omega, HN⟩
      case measure => simp [intOf]; omega
    · obtain rfl : j = 7 := by omega
      go_wp2_with fail
      go_ret
      have h := hS.out
      rw [show 7 - 7 = 0 from rfl, List.replicate_zero, List.append_nil] at h
      exact ⟨g, rfl, h⟩

end Go.Proofs.Ytdoikehkibefpaa
