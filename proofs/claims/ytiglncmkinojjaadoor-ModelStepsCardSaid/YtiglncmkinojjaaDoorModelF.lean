import Derived.Test.YtiglncmkinojjaaDoorModelE
namespace Go.Proofs.YtiglncmkinojjaaDoor
set_option linter.unusedSimpArgs false
set_option linter.unusedVariables false
open Go Go.RowKit

theorem Stats_I (c : Ctx) (R : List HP) (g : Nat) (M : Mo) (ki : Int) (k : Nat) (a b s n : Int) (w : World) (hki : ki = (k : Nat)) (hS : St c (mdl g M :: R) w) (hM : M.Fits) (hk : k < 365) (hr : M.st[k]? = some (a, b, s, n)) :
    Calls Tryd.prog 16 #[.pointer (some ⟨g, 0, none⟩), .int .i64 ki] w fun e' w' => e' = .returned (.tuple #[.int .i64 a, .int .i64 b, .int .i64 s, .int .i64 n]) ∧ St c (mdl g M :: R) w' := by
  subst hki
  exact Stats_ok c R g M k a b s n w hS hM hk hr

theorem Param_I (c : Ctx) (R : List HP) (g : Nat) (M : Mo) (ki : Int) (k : Nat) (a b s n : Int) (w : World) (hki : ki = (k : Nat)) (hS : St c (mdl g M :: R) w) (hk : k < 365) (hr : M.st[k]? = some (a, b, s, n)) (hn : 1 ≤ n) (hn2 : n ≤ 64) (ha : 0 ≤ a) (ha2 : a ≤ 1000000000) :
    Calls Tryd.prog 23 #[.pointer (some ⟨g, 0, none⟩), .int .i64 ki] w fun e' w' => ∃ v : Nat, e' = .returned (.int .i64 (v : Nat)) ∧ Hid (IsParam a n v) ∧ St c (mdl g M :: R) w' := by
  subst hki
  exact Param_ok c R g M k a b s n w hS hk hr hn hn2 ha ha2

set_option maxRecDepth 100000 in
theorem shown_ok (W : World) (hT : Tab W) (l : List HP) (w : World) (hS : St (top W) l w) :
    Calls Tryd.prog 9 #[] w fun e' w' => e' = .returned (.bool true) ∧ St (top W) l w' := by
  have HS := Lib.hid hS
  have HT := Lib.hid hT
  clear hS hT
  go_enter Tryd.func9, Tryd.ntmps9
  go_wp2_with (go_at_call 24; go_must (with_reducible refine (New10 W HT.out l 0 _ HS.out (by omega) (by omega)).mono ?_); rintro e w1 ⟨g, n, rfl, HW, hS⟩; simp only []; have H := Lib.hid hS; clear hS)
  obtain rfl : n = 10 := by
    have h1 := HW.out.1
    have h2 := HW.out.2
    simp only [newMo] at h1 h2
    rcases Nat.lt_or_ge n 10 with h | h
    · have := Nat.pow_le_pow_right (n := 2) (by decide) (show n ≤ 9 by omega)
      omega
    · rcases Nat.lt_or_ge 10 n with h' | h'
      · have := h2 10 h'
        omega
      · omega
  obtain ⟨M, hM⟩ : ∃ M, newMo 1023 0 6 19 72 10 = M := ⟨_, rfl⟩
  have hF : M.Fits := by rw [← hM]; exact newMo_fits _ _ _ _ _ _ (.inl rfl) (by omega) (by omega) HW.out
  have hst : M.st[7]? = some (16, 0, 0, 1) := by rw [← hM]; rfl
  have hsh : shrinkI M 512 = -512 := by rw [← hM]; rfl
  have hgr : growI M 1023 1 = 0 := by rw [← hM]; rfl
  have hsp : M.span = 1024 := by rw [← hM]; rfl
  have hwd : M.wide = 10 := by rw [← hM]; rfl
  rw [hM] at H
  have HF := Lib.hid hF
  have HST := Lib.hid hst
  have HSH := Lib.hid hsh
  have HGR := Lib.hid hgr
  clear hF hst hsh hgr HS HW
  go_wp2_with (first
    | (go_at_call 16; go_must (with_reducible refine (Stats_I (top W) l g M 7 7 16 0 0 1 _ rfl H.out HF.out (by omega) HST.out).mono ?_); rintro e w2 ⟨rfl, hS⟩; simp only []; clear H; have H := Lib.hid hS; clear hS)
    | (go_at_call 15; go_must (with_reducible refine (Range_ok (top W) l g M _ H.out).mono ?_); rintro e w2 ⟨rfl, hq⟩; simp only []; have H2 := Lib.hid (H.out.of_quiet hq); clear hq H; have H := H2; clear H2)
    | (go_at_call 25; go_must (with_reducible refine (Wide_ok (top W) l g M _ H.out).mono ?_); rintro e w2 ⟨rfl, hq⟩; simp only []; have H2 := Lib.hid (H.out.of_quiet hq); clear hq H; have H := H2; clear H2)
    | (go_at_call 12; go_must (with_reducible refine (Shrink_ok (top W) l g M 512 (-512) _ H.out HF.out HSH.out).mono ?_); rintro e w2 ⟨rfl, hq⟩; simp only []; have H2 := Lib.hid (H.out.of_quiet hq); clear hq H; have H := H2; clear H2)
    | (go_at_call 13; go_must (with_reducible refine (Grow_ok (top W) l g M 1023 1 0 _ H.out HF.out HGR.out).mono ?_); rintro e w2 ⟨rfl, hq⟩; simp only []; have H2 := Lib.hid (H.out.of_quiet hq); clear hq H; have H := H2; clear H2)
    | (go_at_call 23; go_must (with_reducible refine (Param_I (top W) l g M 7 7 16 0 0 1 _ rfl H.out (by omega) HST.out (by omega) (by omega) (by omega) (by omega)).mono ?_); rintro e w2 ⟨v, rfl, hv, hS⟩; simp only []; clear H; have H := Lib.hid hS; clear hS))
  rename_i v hv _
  obtain ⟨h1, h2, h3⟩ := hv.out
  obtain rfl : v = 4 := by
    rcases Nat.lt_or_ge v 4 with h | h
    · have := Nat.pow_le_pow_right (n := 2) (by decide) (show v ≤ 3 by omega)
      have := h2 (by omega)
      omega
    · rcases Nat.lt_or_ge 4 v with h' | h'
      · have := h3 4 h'
        omega
      · omega
  go_ret
  exact ⟨rfl, H.out.drop⟩

end Go.Proofs.YtiglncmkinojjaaDoor
