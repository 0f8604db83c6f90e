import Derived.Test.YtakmkjdmonmilaaDoorBitsA
import Derived.Lib.ConvBytes
namespace Go.Proofs.YtakmkjdmonmilaaDoor
set_option linter.unusedSimpArgs false
set_option linter.unusedVariables false
open Go Go.RowKit

/-! A string's bytes in memory of the call's own; taken. -/
/-- The bytes of a text. -/
def bytesS (s : ByteArray) : List Nat := s.data.toList.map UInt8.toNat
theorem bytesS_length (s : ByteArray) : (bytesS s).length = s.size := by rw [bytesS, List.length_map, Array.length_toList]; rfl
theorem bytesS_lt (s : ByteArray) : ∀ b ∈ bytesS s, b < 256 := by
  intro b hb
  obtain ⟨c, _, rfl⟩ := List.mem_map.1 hb
  exact c.toNat_lt

/-- A block that reads as a text's bytes. -/
def bytesB (g : Nat) (s : ByteArray) : HP where
  on w F := (g < w.heap.size ∧ ∀ j, j < s.size → w.cell? ⟨g, j, none⟩ = some (.int .u8 (s.data.toList.getD j 0).toNat)) ∧ ∀ k, F k ↔ k = g
  loc := by
    rintro w w' F ⟨⟨h1, h2⟩, hF⟩ e
    have eg := e g ((hF g).2 rfl)
    refine ⟨⟨?_, fun j hj => ?_⟩, hF⟩
    · rw [Array.getElem?_eq_getElem h1] at eg
      exact lt_of_some eg
    · rw [← h2 j hj]
      exact World.cell?_of_block eg
  lt := fun h hk => by have := (h.2 _).1 hk; subst this; exact h.1.1

theorem St.strBytes {c : Ctx} {R : List HP} {w : World} (h : St c R w) (e : TypeId) (s : ByteArray) : St c (bytesB w.heap.size s :: R) (Lib.bytesWorld w e s) := by
  refine (h.add trivial).step (A := HP.pure True) (fun _ k => k = w.heap.size) (fun F hF => ⟨⟨⟨?_, fun j hj => Lib.bytesWorld_cell w e s j hj⟩, fun k => Iff.rfl⟩, fun k hk => .inr (by omega)⟩) rfl rfl rfl (by rw [Lib.bytesWorld_size]; omega) ?_
  · rw [Lib.bytesWorld_size]; omega
  · intro F hF k hk _
    exact Lib.bytesWorld_at_old w e s k hk

theorem Rd.of_bytesB {c : Ctx} {R : List HP} {g cap : Nat} {s : ByteArray} (hc : s.size ≤ cap) : Rd c (bytesB g s :: R) (.slice (some ⟨g, 0, none⟩) s.size cap) (bytesV (bytesS s)) := by
  intro l w hS
  have hS := hS.perm (l' := bytesB g s :: (l ++ R)) (by
    have := List.perm_middle (a := bytesB g s) (l₁ := l) (l₂ := R)
    exact this)
  obtain ⟨F, ⟨F1, F2, ⟨⟨hg, hcell⟩, _⟩, _⟩, _⟩ := hS
  refine ⟨_, _, _, rfl, hc, by rw [show (bytesV (bytesS s)).length = (bytesS s).length by simp [bytesV], bytesS_length], (fun h => by cases h), fun ad had j u hj => ?_⟩
  cases had
  have hjl : j < s.data.toList.length := by
    have := (List.getElem?_eq_some_iff.1 hj).1
    simpa [bytesV, bytesS] using this
  have h2 := hcell j (by rw [Array.length_toList] at hjl; exact hjl)
  have e : (⟨g, 0, none⟩ : Addr).add j = ⟨g, j, none⟩ := by
    unfold Addr.add; split
    · subst j; rfl
    · simp
  rw [e, h2, ← hj]
  simp [bytesV, bytesS, List.getD_eq_getElem?_getD, List.getElem?_eq_getElem hjl]

end Go.Proofs.YtakmkjdmonmilaaDoor
