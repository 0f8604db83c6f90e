import Derived.Test.YthpkdephkhcgmaaBk8A
import Derived.Test.YthpkdephkhcgmaaBkP
/-! Marks; a list full of one; the book's end. -/
namespace Go.Proofs.Ythpkdephkhcgmaa
set_option linter.unusedSimpArgs false
set_option linter.unusedVariables false
open Go Go.RowKit Go.Proofs.YthpkdephkhcgmaaW.PrintWords Go.Proofs.YthpkdephkhcgmaaW.PrintLast

def mk8 (i : Nat) : Int := (37 * (i : Int) + 11) % 256
set_option maxHeartbeats 1000000 in
theorem mark8_ok (i : Nat) (w : World) (hi : i ≤ 1000000) : Calls Try.prog 29 #[.int .i64 (i : Nat)] w fun e w' => e = .returned (.int .u8 (mk8 i)) ∧ w' = w := by
  have HI : Hid (mk8 i = (37 * (i : Int) + 11) % 256) := rfl
  go_enter Try.func29, Try.ntmps29
  go_wp2_with fail
  go_ret
  exact ⟨by rw [HI.out]; rfl, rfl⟩
set_option maxHeartbeats 2000000 in
theorem full8_ok (w : World) (ao : Option Addr) (n cap : Nat) (m : Int) (h0 : ao = none → n = 0) (hn : n ≤ 1000000000) (hc : ∀ ad, ao = some ad → ad.off = 0 ∧ ad.spot = none ∧ ∀ j, j < n → w.cell? ⟨ad.block, j, none⟩ = some (.int .u8 m)) :
    Calls Try.prog 30 #[.slice ao n cap, .int .u8 m] w fun e w' => e = .returned (.bool true) ∧ w' = w := by
  have H0 := Lib.hid h0
  have HC := Lib.hid hc
  clear h0 hc
  go_enter Try.func30, Try.ntmps30
  go_wp2_with fail
  go_loop [5] (fun v => ∃ k : Nat, v = .int .i64 (k : Nat) ∧ k ≤ n) (fun v => n - (intOf v).toNat)
  case atStart => exact ⟨0, rfl, by omega⟩
  case round =>
    obtain ⟨k, rfl, hk⟩ := hrel
    by_cases hkl : k < n
    · obtain ⟨ad, had⟩ : ∃ ad, ao = some ad := by
        cases ao with
        | none => have := H0.out rfl; omega
        | some ad => exact ⟨ad, rfl⟩
      obtain ⟨h1, h2, h3⟩ := HC.out ad had
      obtain ⟨b, off, sp⟩ := ad
      simp only at h1 h2
      subst h1; subst h2; subst had
      have hcl := h3 k hkl
      have t1 : (0 : Int) ≤ (k : Int) := by omega
      have t2 : (k : Int) < n := by omega
      have t3 : (m != m) = false := by simp
      clear h3
      go_wp2_with fail
      go_round
      case rel => exact ⟨k + 1, by go_num, by omega⟩
      case measure => simp [intOf]; omega
    · go_wp2_with fail
      go_ret
      exact ⟨rfl, rfl⟩
theorem conv8_ok (w : World) {Ao : Option Addr} {l : List Int} (cap : Nat) (hC : Kd.C (Kd.int .u8) w Ao l.length l) : (convert 24 9 (.slice Ao l.length cap)).run Try.prog w = .ok (.string (strOfNums l)) w := by
  by_cases h0 : 0 < l.length
  · obtain ⟨b, off, rfl, hc⟩ := C_reads hC h0
    exact run_convert_bytes_arg w _ _ Try.underlying24 Try.underlying5 b off l.length cap l rfl hc _ Try.underlying9
  · have hl : l = [] := List.eq_nil_of_length_eq_zero (by omega)
    subst hl
    cases Ao with
    | none => exact run_convert_bytes_nil w _ _ Try.underlying24 Try.underlying5 _ _ _ Try.underlying9
    | some ad =>
      rw [run_convert_bytes_string w _ _ 5 _ _ _ Try.underlying24 Try.underlying5 Try.underlying9]
      exact run_bytesToString (P := Try.prog) w ad 0 cap [] (by simp [loadCells, loadCellsFrom])
end Go.Proofs.Ythpkdephkhcgmaa
