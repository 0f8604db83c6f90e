import Derived.Test.YtakmkjdmonmilaaDoorBitsB
namespace Go.Proofs.YtakmkjdmonmilaaDoor
set_option linter.unusedSimpArgs false
set_option linter.unusedVariables false
open Go Go.RowKit

theorem bytes_oneCell (l : List Nat) : ∀ u ∈ bytesV l, u.oneCell' = true := by
  intro u hu
  obtain ⟨_, _, rfl⟩ := List.mem_map.1 hu
  rfl
theorem bytesV_length (l : List Nat) : (bytesV l).length = l.length := by simp [bytesV]

theorem copied_ok (c : Ctx) (R : List HP) (v : Value) (bs : List Nat) (w : World) (hS : St c R w) (hv : Rd c R v (bytesV bs)) (hb : bs.length ≤ 140737488355328) :
    Calls Tryd.prog 42 #[v] w fun e w' => ∃ g cap, e = .returned (.slice (some ⟨g, 0, none⟩) bs.length cap) ∧ St c (row 5 1 (.slice (some ⟨g, 0, none⟩) bs.length cap) bs.length (bytesV bs) :: R) w' := by
  obtain ⟨ao, n, cap, rfl, hc, hn, -, -⟩ := hv [] w hS
  rw [bytesV_length] at hn
  subst hn
  have HS := Lib.hid hS
  have HV := Lib.hid hv
  clear hS hv
  go_enter Tryd.func42, Tryd.ntmps42
  go_wp2_with (at_make; go_must (refine St.make1 rfl _ _ _ rfl elemU8 rfl bs.length rfl rfl HS.out (by omega) (by unfold maxLen; omega) ?_))
  intro g w1 hS1
  have HS1 := Lib.hid hS1
  clear hS1
  go_wp2_with ((with_reducible refine at_dst 9 rfl ?_); go_must (refine St.copy rfl _ _ _ _ rfl elemU8 rfl rfl (HV.out [_] _ HS1.out) (bytes_oneCell _) HS1.out (by omega) ?_))
  intro w2 hS2
  have e1 : (bytesV bs).take bs.length = bytesV bs := List.take_of_length_le (by simp [bytesV])
  have HS2 := Lib.hid hS2
  clear hS2
  go_wp2
  go_ret
  refine ⟨g, bs.length, rfl, ?_⟩
  have := HS2.out
  rw [e1] at this
  simpa [bytesV_length] using this

theorem Bytes_ok (c : Ctx) (R : List HP) (g : Nat) (l : List Bool) (w : World) (hS : St c (writer g l :: R) w) (hl : l.length ≤ 562949953421344) :
    Calls Tryd.prog 23 #[.pointer (some ⟨g, 0, none⟩)] w fun e w' => ∃ g2 n cap, e = .returned (.slice (some ⟨g2, 0, none⟩) n cap) ∧ Hid (n = (pack l).length) ∧ St c (row 5 1 (.slice (some ⟨g2, 0, none⟩) n cap) n (bytesV (pack l)) :: writer g l :: R) w' := by
  obtain ⟨v, hS⟩ := hS.open_
  have hS := hS.star
  have hc := hS.cell 0
  simp only [List.getElem?_cons_zero] at hc
  obtain ⟨ao, cap, rfl, _⟩ := hS.swap.rowShape
  have hb : (pack l).length ≤ 140737488355328 := by rw [pack_length]; omega
  have HS := Lib.hid hS
  have HB := Lib.hid hb
  clear hS hb
  go_enter Tryd.func23, Tryd.ntmps23
  go_wp2_with (go_at_call 42; go_must (refine (copied_ok c _ _ (pack l) _ HS.out (Rd.of_mem (.tail _ (.head _))) HB.out).mono ?_); rintro e w' ⟨g2, cap2, rfl, hS2⟩)
  go_ret
  exact ⟨g2, _, cap2, rfl, rfl, (St.toWriter hS2.back3).swap⟩

set_option maxHeartbeats 1000000 in
set_option maxRecDepth 100000 in
theorem NewReader_ok (c : Ctx) (R : List HP) (v : Value) (bs : List Nat) (w : World) (hS : St c R w) (hv : Rd c R v (bytesV bs)) (hb : bs.length ≤ 140737488355328) :
    Calls Tryd.prog 22 #[v] w fun e w' => ∃ g, e = .returned (.pointer (some ⟨g, 0, none⟩)) ∧ St c (reader g bs 0 :: R) w' := by
  have hu := Tryd.underlying89
  obtain ⟨ao, n, cap, rfl, hc, hn, -, -⟩ := hv [] w hS
  have HS := Lib.hid hS
  have HV := Lib.hid hv
  clear hS hv hn
  go_enter Tryd.func22, Tryd.ntmps22
  go_wp2_with (go_at_call 42; go_must (refine (copied_ok c R _ bs _ HS.out HV.out hb).mono ?_); rintro e w' ⟨g2, cap2, rfl, hS2⟩)
  go_ret
  refine ⟨_, rfl, ?_⟩
  exact St.toReader (hS2.alloc [.slice (some ⟨g2, 0, none⟩) bs.length cap2, .int .i64 0] 89)

theorem Put_I (c : Ctx) (R : List HP) (g : Nat) (l l' : List Bool) (v n : Int) (w : World) (hS : St c (writer g l :: R) w) (h0 : 0 ≤ n) (hn : n ≤ 32) (hv0 : 0 ≤ v) (hv : v.toNat < 2 ^ n.toNat) (hl : l.length ≤ 562949953421312) (hl' : l ++ bitsOf v.toNat n.toNat = l') :
    Calls Tryd.prog 38 #[.pointer (some ⟨g, 0, none⟩), .int .u32 v, .int .i64 n] w fun e w' => e = .returned (.int .i64 0) ∧ St c (writer g l' :: R) w' := by
  subst hl'
  obtain ⟨v, rfl⟩ := Int.eq_ofNat_of_zero_le hv0
  obtain ⟨n, rfl⟩ := Int.eq_ofNat_of_zero_le h0
  exact Put_ok c R g l v n w hS (by omega) hv hl

end Go.Proofs.YtakmkjdmonmilaaDoor
