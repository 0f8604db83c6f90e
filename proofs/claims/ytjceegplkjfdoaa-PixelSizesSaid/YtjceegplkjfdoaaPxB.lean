import Derived.Test.YtjceegplkjfdoaaPxA
/-! A group's spots, a sample of it, a word. -/
namespace Go.Proofs.Ytjceegplkjfdoaa
set_option linter.unusedSimpArgs false
set_option linter.unusedVariables false
open Go Go.RowKit

theorem cell_lt {w : World} {g i : Nat} {v : Value} (c0 : w.cell? ⟨g, i, none⟩ = some v) : g < w.heap.size := by
  unfold World.cell? at c0
  split at c0
  · rename_i h; exact lt_of_some h
  · cases c0

def zeroL : List Value := List.replicate 24 (.int .i64 0)
def spotL : List Value := [1, 0, 0, 0, 2, 0, 0, 1, 1, 1, 0, 2, 2, 1, 0, 3, 1, 2, 0, 4, 2, 2, 0, 5].map (Value.int .i64)

set_option maxHeartbeats 1000000 in
set_option maxRecDepth 100000 in
theorem spots_ok (c : Ctx) (R : List HP) (w : World) (hS : St c R w) :
    Calls Try.prog 74 #[] w fun e w' => e = .returned (.agg spotL.toArray) ∧ St c R w' := by
  have HS := Lib.hid (hS.alloc' rfl spotL 89)
  have hz := (zero_of_info (P := Try.prog) (t := 89) (v := .agg #[.int .i64 0, .int .i64 0, .int .i64 0, .int .i64 0, .int .i64 0, .int .i64 0, .int .i64 0, .int .i64 0, .int .i64 0, .int .i64 0, .int .i64 0, .int .i64 0, .int .i64 0, .int .i64 0, .int .i64 0, .int .i64 0, .int .i64 0, .int .i64 0, .int .i64 0, .int .i64 0, .int .i64 0, .int .i64 0, .int .i64 0, .int .i64 0]) (n := 24) (by kernel_rfl)).1
  clear hS
  go_enter Try.func74, Try.ntmps74
  go_wp2_with (refine wpList_store_row rfl 89 _ _ rfl w.heap.size spotL.toArray rfl rfl 89 #[.int .i64 0, .int .i64 0, .int .i64 0, .int .i64 0, .int .i64 0, .int .i64 0, .int .i64 0, .int .i64 0, .int .i64 0, .int .i64 0, .int .i64 0, .int .i64 0, .int .i64 0, .int .i64 0, .int .i64 0, .int .i64 0, .int .i64 0, .int .i64 0, .int .i64 0, .int .i64 0, .int .i64 0, .int .i64 0, .int .i64 0, .int .i64 0] (heap_alloc_new w _) (by as_aux_lemma => kernel_rfl) rfl (by as_aux_lemma => kernel_rfl) ?_)
  have h4 : ((w.alloc (.cells #[.int .i64 0, .int .i64 0, .int .i64 0, .int .i64 0, .int .i64 0, .int .i64 0, .int .i64 0, .int .i64 0, .int .i64 0, .int .i64 0, .int .i64 0, .int .i64 0, .int .i64 0, .int .i64 0, .int .i64 0, .int .i64 0, .int .i64 0, .int .i64 0, .int .i64 0, .int .i64 0, .int .i64 0, .int .i64 0, .int .i64 0, .int .i64 0] 89)).setRow w.heap.size spotL.toArray) = w.alloc (.cells spotL.toArray 89) := World.setRow_alloc_new ..
  rw [h4]
  exact bodyPost_ret (results_cell_row rfl _ _ w.heap.size 89 spotL.toArray (0, 0) _ rfl HS.out.blk_at Try.underlying89 rfl (by kernel_rfl)) rfl ⟨rfl, HS.out.drop⟩

set_option maxHeartbeats 1000000 in
set_option maxRecDepth 100000 in
theorem sample_no (c : Ctx) (R : List HP) (w : World) (hS : St c R w) (q : Nat) (p n : Int) (hp : 0 ≤ p ∧ p ≤ 2) (hn : 1 ≤ n ∧ n ≤ 5) :
    Calls Try.prog 75 #[tinyV q, .int .i64 0, .int .i64 0, .agg #[.int .i64 p, .int .i64 n]] w fun e w' => e = .returned (.tuple #[.slice none 0 0, .int .i64 0, .bool false]) ∧ St c R w' := by
  have HS := Lib.hid hS
  clear hS
  have h1 : decide (n ≥ 1) = true := by rw [decide_eq_true_iff]; omega
  have h2 : decide (1 ≤ n) = true := by rw [decide_eq_true_iff]; omega
  have hcase : p = 0 ∨ (p == 0) = false := by by_cases h : p = 0 <;> simp [h]
  rcases hcase with rfl | hp0
  · unfold tinyV; go_enter Try.func75, Try.ntmps75
    go_wp2_with fail
    go_ret3
    exact ⟨rfl, (HS.out.allocSkip _).allocSkip _⟩
  · unfold tinyV; go_enter Try.func75, Try.ntmps75
    go_wp2_with fail
    go_ret3
    exact ⟨rfl, (HS.out.allocSkip _).allocSkip _⟩

set_option maxHeartbeats 1000000 in
set_option maxRecDepth 100000 in
theorem sample_yes (c : Ctx) (R : List HP) (w : World) (hS : St c R w) (q g : Nat) (p : Nat) (hp : p < 3) (hc : w.cell? ⟨q, p, none⟩ = some (oneV g)) :
    Calls Try.prog 75 #[tinyV q, .int .i64 0, .int .i64 0, .agg #[.int .i64 (p : Nat), .int .i64 0]] w fun e w' => e = .returned (.tuple #[oneV g, .int .i64 0, .bool true]) ∧ St c R w' := by
  have hq := cell_lt hc
  have HS := Lib.hid hS
  clear hS
  unfold oneV at hc
  have hcase : p = 0 ∨ p = 1 ∨ p = 2 := by omega
  rcases hcase with rfl | rfl | rfl
  · unfold tinyV; go_enter Try.func75, Try.ntmps75
    go_wp2_with fail
    go_ret3
    exact ⟨rfl, (HS.out.allocSkip _).allocSkip _⟩
  · unfold tinyV; go_enter Try.func75, Try.ntmps75
    go_wp2_with fail
    go_ret3
    exact ⟨rfl, (HS.out.allocSkip _).allocSkip _⟩
  · unfold tinyV; go_enter Try.func75, Try.ntmps75
    go_wp2_with fail
    go_ret3
    exact ⟨rfl, (HS.out.allocSkip _).allocSkip _⟩

set_option maxHeartbeats 1000000 in
set_option maxRecDepth 100000 in
theorem word_ok (c : Ctx) (R : List HP) (w : World) (hS : St c R w) (x y z : Int) (n b0 b1 b2 b3 : Nat) (hn : IntKind.u64.wrap (bits .or .u32 (bits .or .u32 x (y * 1024 % 4294967296)) (z * 1048576 % 4294967296)) = n) (hb : n < 4294967296) (hbb : bigB n 4 = [b0, b1, b2, b3]) :
    Calls Try.prog 76 #[.agg #[.int .u32 x, .int .u32 y, .int .u32 z]] w fun e w' => ∃ g, e = .returned (.slice (some ⟨g, 0, none⟩) 4 4) ∧ St c (blk g [.int .u8 (b3 : Nat), .int .u8 (b2 : Nat), .int .u8 (b1 : Nat), .int .u8 (b0 : Nat)] 5 :: R) w' := by
  have HS := Lib.hid (hS.allocSkip (.cells #[.int .u32 x, .int .u32 y, .int .u32 z] 92))
  have H := Lib.hid hn
  have HB := Lib.hid hbb
  have HL : Hid (n < 18446744073709551616) := by show _ < _; omega
  have hl : n < 256 ^ 4 := by have : (256 : Nat) ^ 4 = 4294967296 := by decide
                              omega
  clear hS hn hbb
  go_enter Try.func76, Try.ntmps76
  go_wp2_with fail
  rw [H.out]
  refine (Big_ok c R n 4 _ HS.out HL (by decide) (by decide) hl).mono ?_
  rintro en w1 ⟨g, cap, rfl, hS1⟩
  rw [HB.out] at hS1
  have c0 : w1.cell? ⟨g, 0, none⟩ = some (.int .u8 (b0 : Nat)) := by rw [hS1.row_at.cellAt 0 (by decide)]; rfl
  have c1 : w1.cell? ⟨g, 1, none⟩ = some (.int .u8 (b1 : Nat)) := by rw [hS1.row_at.cellAt 1 (by decide)]; rfl
  have c2 : w1.cell? ⟨g, 2, none⟩ = some (.int .u8 (b2 : Nat)) := by rw [hS1.row_at.cellAt 2 (by decide)]; rfl
  have c3 : w1.cell? ⟨g, 3, none⟩ = some (.int .u8 (b3 : Nat)) := by rw [hS1.row_at.cellAt 3 (by decide)]; rfl
  have hg : g < w1.heap.size := by
    have c0 := c0
    unfold World.cell? at c0
    split at c0
    · rename_i h; exact lt_of_some h
    · cases c0
  have HS1 := Lib.hid hS1.drop
  clear hS1 HS H HB HL hl hb
  go_wp2_with fail
  go_region
  go_wp2_with fail
  go_ret
  exact ⟨_, rfl, (HS1.out.alloc' rfl [.int .u8 (b3 : Nat), .int .u8 (b2 : Nat), .int .u8 (b1 : Nat), .int .u8 (b0 : Nat)] 5).drew⟩

end Go.Proofs.Ytjceegplkjfdoaa
