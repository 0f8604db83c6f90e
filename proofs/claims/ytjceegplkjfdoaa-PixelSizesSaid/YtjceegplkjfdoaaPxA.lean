import Derived.Test.YtjceegplkjfdoaaProg
import Derived.Test.YtjceegplkjfdoaaBig
import Derived.Test.YtjceegplkjfdoaaPlaneS
import Derived.Test.YtjceegplkjfdoaaMat
import Derived.Deep.QuietTactic
import Derived.Deep.WholeRow
import Derived.BigQuiet
import Derived.BigRegion
import Derived.Lib.Hide
import Derived.WalkSpells
import Derived.LoopN
import Derived.Laws.EntriesVeiled
import Derived.Laws.Tables
/-! The document's tiny frame, and what writes it. -/
namespace Go.Proofs.Ytjceegplkjfdoaa
set_option linter.unusedSimpArgs false
set_option linter.unusedVariables false
open Go Go.RowKit

def tinyV (q : Nat) : Value := .agg #[.int .i64 1, .int .i64 1, .int .i64 10, .bool false, .slice (some ⟨q, 0, none⟩) 3 3]
def oneV (g : Nat) : Value := .slice (some ⟨g, 0, none⟩) 1 1
def tinyQ (q a b d : Nat) : HP := blk q [oneV a, oneV b, oneV d] 60
def tinyA (a : Nat) (v : Int) : HP := blk a [.int .u16 v] 62

set_option maxHeartbeats 1000000 in
set_option maxRecDepth 100000 in
theorem tiny_ok (c : Ctx) (R : List HP) (w : World) (hS : St c R w) :
    Calls Try.prog 13 #[] w fun e w' => ∃ q a b d, e = .returned (tinyV q) ∧ St c (tinyQ q a b d :: tinyA d 769 :: tinyA b 2 :: tinyA a 1 :: R) w' := by
  have HS := Lib.hid (((((hS.alloc' rfl [.int .i64 1, .int .i64 1, .int .i64 10, .bool false, .slice (some ⟨w.heap.size + 1 + 1 + 1 + 1, 0, none⟩) 3 3] 27).alloc' (n := w.heap.size + 1) (by simp) [.int .u16 1] 62).alloc' (n := w.heap.size + 1 + 1) (by simp) [.int .u16 2] 62).alloc' (n := w.heap.size + 1 + 1 + 1) (by simp) [.int .u16 769] 62).alloc' (n := w.heap.size + 1 + 1 + 1 + 1) (by simp) [oneV (w.heap.size + 1), oneV (w.heap.size + 1 + 1), oneV (w.heap.size + 1 + 1 + 1)] 60)
  clear hS
  go_enter Try.func13, Try.ntmps13
  go_wp2_with fail
  exact bodyPost_ret (results_cell_row rfl _ _ w.heap.size 27 #[.int .i64 1, .int .i64 1, .int .i64 10, .bool false, .slice (some ⟨w.heap.size + 1 + 1 + 1 + 1, 0, none⟩) 3 3] (0, 0) _ rfl HS.out.rot5.blk_at Try.underlying27 rfl (by kernel_rfl)) rfl ⟨_, _, _, _, rfl, HS.out.rot5.drop⟩

def fmtT : Value := .agg #[.func (.func 57) #[] #[], .func (.func 58) #[] #[], .func (.func 59) #[] #[], .func (.func 60) #[] #[]]
def fmtF : Value := .agg #[.func (.func 61) #[] #[], .func (.func 62) #[] #[], .func (.func 63) #[] #[], .func (.func 64) #[] #[]]

set_option maxHeartbeats 1000000 in
set_option maxRecDepth 100000 in
theorem formatOf_t (c : Ctx) (R : List HP) (w : World) (hS : St c R w) :
    Calls Try.prog 36 #[.bool true] w fun e w' => e = .returned fmtT ∧ St c R w' := by
  have HS := Lib.hid (hS.alloc' rfl [.func (.func 57) #[] #[], .func (.func 58) #[] #[], .func (.func 59) #[] #[], .func (.func 60) #[] #[]] 68)
  clear hS
  go_enter Try.func36, Try.ntmps36
  go_wp2_with fail
  exact bodyPost_ret (results_cell_row rfl _ _ w.heap.size 68 #[.func (.func 57) #[] #[], .func (.func 58) #[] #[], .func (.func 59) #[] #[], .func (.func 60) #[] #[]] (0, 0) _ rfl HS.out.blk_at Try.underlying68 rfl (by kernel_rfl)) rfl ⟨rfl, HS.out.drop⟩

set_option maxHeartbeats 1000000 in
set_option maxRecDepth 100000 in
theorem formatOf_f (c : Ctx) (R : List HP) (w : World) (hS : St c R w) :
    Calls Try.prog 36 #[.bool false] w fun e w' => e = .returned fmtF ∧ St c R w' := by
  have HS := Lib.hid (hS.alloc' rfl [.func (.func 61) #[] #[], .func (.func 62) #[] #[], .func (.func 63) #[] #[], .func (.func 64) #[] #[]] 68)
  clear hS
  go_enter Try.func36, Try.ntmps36
  go_wp2_with fail
  exact bodyPost_ret (results_cell_row rfl _ _ w.heap.size 68 #[.func (.func 61) #[] #[], .func (.func 62) #[] #[], .func (.func 63) #[] #[], .func (.func 64) #[] #[]] (0, 0) _ rfl HS.out.blk_at Try.underlying68 rfl (by kernel_rfl)) rfl ⟨rfl, HS.out.drop⟩

end Go.Proofs.Ytjceegplkjfdoaa
