import Derived.Test.YtakmkjdmonmilaaDoorGoBack
import Derived.Test.YtakmkjdmonmilaaDoorGoS
namespace Go.Proofs.YtakmkjdmonmilaaDoor
set_option linter.unusedSimpArgs false
set_option linter.unusedVariables false
open Go Go.RowKit

/-! Raw runs; plain words. -/
/-- A raw run: N, Room. -/
abbrev RawRun := Int × Int
def uRoom (p : RawRun) : Nat := pickN p.2 4096 + 1
def uN (p : RawRun) : Nat := pickN p.1 (uRoom p + 1)
theorem uRoom_le (p : RawRun) : 1 ≤ uRoom p ∧ uRoom p ≤ 4096 := by
  have := pickN_lt p.2 4096 (by decide)
  unfold uRoom; omega
theorem uN_le (p : RawRun) : uN p ≤ uRoom p := by
  have := pickN_lt p.1 (uRoom p + 1) (by omega)
  unfold uN; omega

def uRate : Nat → List RawRun → Nat
  | r, [] => r
  | r, p :: l => uRate (rnext r (uN p) (uRoom p)) l
def uBits : Nat → List RawRun → List Bool
  | _, [] => []
  | r, p :: l => rform r (uN p) (uRoom p) ++ uBits (rnext r (uN p) (uRoom p)) l
theorem uRate_append (a b : List RawRun) : ∀ r, uRate r (a ++ b) = uRate (uRate r a) b := by
  induction a with
  | nil => intro r; rfl
  | cons p a ih => intro r; simp only [List.cons_append, uRate]; exact ih _
theorem uBits_append (a b : List RawRun) : ∀ r, uBits r (a ++ b) = uBits r a ++ uBits (uRate r a) b := by
  induction a with
  | nil => intro r; rfl
  | cons p a ih => intro r; simp only [List.cons_append, uBits, uRate]; rw [ih, List.append_assoc]
theorem rnext_le {r n room : Nat} (hr : r ≤ 22) : rnext r n room ≤ 22 := by
  have := runGo_facts n r hr
  unfold rnext; split <;> omega
theorem uRate_le (l : List RawRun) : ∀ r, r ≤ 22 → uRate r l ≤ 22 := by
  induction l with
  | nil => intro r h; exact h
  | cons p l ih => intro r h; exact ih _ (rnext_le h)
theorem rform_len {r n room : Nat} (hr : r ≤ 22) (hn : n ≤ 4096) : (rform r n room).length ≤ 36 := by
  have h1 := runGo_pays n r hr hn
  have h2 := runGo_facts n r hr
  have h3 := J_le (runGo r n).2.1
  have h4 : (runGo r n).1 ≤ 23 := by
    have := h1.2
    revert this; split <;> intro this <;> omega
  unfold rform
  rw [List.length_append, List.length_replicate]
  split
  · rw [List.length_cons, bitsOf_length]; omega
  · split <;> simp <;> omega
theorem uBits_len (l : List RawRun) : ∀ r, r ≤ 22 → (uBits r l).length ≤ 36 * l.length := by
  induction l with
  | nil => intro r h; simp [uBits]
  | cons p l ih =>
    intro r h
    have h1 := ih _ (rnext_le (n := uN p) (room := uRoom p) h)
    have h2 := rform_len (r := r) (n := uN p) (room := uRoom p) h (by have := uN_le p; have := uRoom_le p; omega)
    simp only [uBits, List.length_append, List.length_cons]
    omega
theorem run_pack {A F rest B : List Bool} {r n room : Nat} (hF : rform r n room = F) (hB : A ++ F ++ rest = B) : hasRun (pack B) A.length r n room := by
  subst hF hB
  refine ⟨?_, ?_⟩
  · rw [pack_length]; simp only [List.length_append]; omega
  · rw [bitsAt_pack _ _ _ (by simp only [List.length_append]; omega), List.append_assoc, List.drop_left, List.take_left' rfl]

def RunRawIs (xs : List Value) (p : RawRun) : Prop := xs = [.int .i64 p.1, .int .i64 p.2] ∧ in64 p.1 ∧ in64 p.2

set_option maxRecDepth 100000 in
theorem ok_rawrun {H : Type} {enc : TypeId × Value → H} {W : World} (xs : List Value) (h : Ok enc Tryd.prog W 62 xs) : ∃ p, RunRawIs xs p := by
  obtain ⟨h1, h2⟩ := ok_struct Tryd.underlying62 h
  have hlen : xs.length = 2 := h1.trans (by kernel_rfl)
  match xs, hlen with
  | [x0, x1], _ =>
    have e0 := h2 0 _ rfl
    have e1 := h2 1 _ rfl
    obtain ⟨n0, q0, w0⟩ := ok_int (k := .i64) Tryd.underlying3 e0
    obtain ⟨n1, q1, w1⟩ := ok_int (k := .i64) Tryd.underlying3 e1
    simp [cInt] at q0 q1
    exact ⟨(n0, n1), by rw [q0, q1], in64_of w0, in64_of w1⟩

theorem arg_rawruns {H : Type} {enc : TypeId × Value → H} {W : World} {base : Nat} {v : Value} (h : Arg enc Tryd.prog W base 59 v) :
    ∃ (ao : Option Addr) (cap : Nat) (l : List RawRun), v = .slice ao l.length cap ∧ l.length ≤ cap ∧ l.length * 16 ≤ 140737488351232 ∧
      ∀ i (hi : i < l.length), ∃ b off, ao = some ⟨b, off, none⟩ ∧ W.cell? ⟨b, off + i * 2, none⟩ = some (.int .i64 l[i].1) ∧ W.cell? ⟨b, off + i * 2 + 1, none⟩ = some (.int .i64 l[i].2) ∧ in64 l[i].1 ∧ in64 l[i].2 := by
  obtain ⟨ao, cap, l, rfl, hlc, hw, hn, ha⟩ := ok_rows RunRawIs Tryd.underlying59 ok_rawrun (sz := 2) (B := 16) (by kernel_rfl) (by decide) (by kernel_rfl) (arg_slice Tryd.underlying59 h)
  refine ⟨ao, cap, l, rfl, hlc, ?_, ?_⟩
  · have : reachBytes = 140737488351232 := rfl
    omega
  · intro i hi
    obtain ⟨b, off, xs, h1, ⟨rfl, h3, h4⟩, h6, h7⟩ := ha i hi
    exact ⟨b, off, h1, h7 0 (by decide), h7 1 (by decide), h3, h4⟩

theorem blk2 {c : Ctx} {R : List HP} {g : Nat} {x y : Value} {t : TypeId} {w : World} (h : St c (blk g [x, y] t :: R) w) :
    w.cell? ⟨g, 0, none⟩ = some x ∧ w.cell? ⟨g, 1, none⟩ = some y :=
  ⟨by rw [h.cell 0]; rfl, by rw [h.cell 1]; rfl⟩

set_option maxHeartbeats 1000000 in
set_option maxRecDepth 100000 in
theorem uof_ok (c : Ctx) (R : List HP) (a b : Int) (n room : Nat) (w : World) (hS : St c R w) (i1 : in64 a) (i2 : in64 b) (h1 : uRoom (a, b) = room) (h2 : uN (a, b) = n) :
    Calls Tryd.prog 31 #[.agg #[.int .i64 a, .int .i64 b]] w fun e w' => e = .returned (.tuple #[.int .i64 n, .int .i64 room]) ∧ St c R w' := by
  obtain ⟨m, hm⟩ : ∃ m, pickN b 4096 = m := ⟨_, rfl⟩
  have hm2 : m < 4096 := by rw [← hm]; exact pickN_lt _ _ (by decide)
  have e1 : m + 1 = room := by rw [← hm]; exact h1
  have h2' : pickN a (room + 1) = n := by rw [← h1]; exact h2
  have H2 := Lib.hid h2'
  have HM := Lib.hid hm
  have I1 := Lib.hid i1
  have I2 := Lib.hid i2
  have HS := Lib.hid (hS.alloc [.int .i64 a, .int .i64 b] 62)
  have eq1 : (1 : Int) + (m : Int) = ((room : Nat) : Int) := by omega
  clear h1 h2 h2' hm i1 i2
  obtain ⟨c0, c1⟩ := blk2 HS.out
  go_enter Tryd.func31, Tryd.ntmps31
  go_wp2_with fail
  refine (pick_is b 4096 m _ I2.out (by decide) (by decide) HM.out).mono ?_
  rintro en w' ⟨rfl, rfl⟩
  go_wp2_with fail
  refine (pick_is a (room + 1) n _ I1.out (by omega) (by omega) H2.out).mono ?_
  rintro en w' ⟨rfl, rfl⟩
  go_wp2_with fail
  go_ret2
  exact ⟨rfl, HS.out.drop⟩

end Go.Proofs.YtakmkjdmonmilaaDoor
