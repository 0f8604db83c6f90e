import Derived.Test.YtakmkjdmonmilaaDoorGoU
import Derived.Lib.ConvBytes
namespace Go.Proofs.YtakmkjdmonmilaaDoor
set_option linter.unusedSimpArgs false
set_option linter.unusedVariables false
open Go Go.RowKit

/-! A string's bytes in memory of the call's own; taken. -/
/-- The bytes of a text. -/
def bytesS (s : ByteArray) : List Nat := s.data.toList.map UInt8.toNat
theorem bytesS_length (s : ByteArray) : (bytesS s).length = s.size := by rw [bytesS, List.length_map, Array.length_toList]; rfl
theorem bytesS_lt (s : ByteArray) : ∀ b ∈ bytesS s, b < 256 := by
  intro b hb
  obtain ⟨c, _, rfl⟩ := List.mem_map.1 hb
  exact c.toNat_lt

/-- A block that reads as a text's bytes. -/
def bytesB (g : Nat) (s : ByteArray) : HP where
  on w F := (g < w.heap.size ∧ ∀ j, j < s.size → w.cell? ⟨g, j, none⟩ = some (.int .u8 (s.data.toList.getD j 0).toNat)) ∧ ∀ k, F k ↔ k = g
  loc := by
    rintro w w' F ⟨⟨h1, h2⟩, hF⟩ e
    have eg := e g ((hF g).2 rfl)
    refine ⟨⟨?_, fun j hj => ?_⟩, hF⟩
    · rw [Array.getElem?_eq_getElem h1] at eg
      exact lt_of_some eg
    · rw [← h2 j hj]
      exact World.cell?_of_block eg
  lt := fun h hk => by have := (h.2 _).1 hk; subst this; exact h.1.1

theorem St.strBytes {c : Ctx} {R : List HP} {w : World} (h : St c R w) (e : TypeId) (s : ByteArray) : St c (bytesB w.heap.size s :: R) (Lib.bytesWorld w e s) := by
  refine (h.add trivial).step (A := HP.pure True) (fun _ k => k = w.heap.size) (fun F hF => ⟨⟨⟨?_, fun j hj => Lib.bytesWorld_cell w e s j hj⟩, fun k => Iff.rfl⟩, fun k hk => .inr (by omega)⟩) rfl rfl rfl (by rw [Lib.bytesWorld_size]; omega) ?_
  · rw [Lib.bytesWorld_size]; omega
  · intro F hF k hk _
    exact Lib.bytesWorld_at_old w e s k hk

theorem Rd.of_bytesB {c : Ctx} {R : List HP} {g cap : Nat} {s : ByteArray} (hc : s.size ≤ cap) : Rd c (bytesB g s :: R) (.slice (some ⟨g, 0, none⟩) s.size cap) (bytesV (bytesS s)) := by
  intro l w hS
  have hS := hS.perm (l' := bytesB g s :: (l ++ R)) (by
    have := List.perm_middle (a := bytesB g s) (l₁ := l) (l₂ := R)
    exact this)
  obtain ⟨F, ⟨F1, F2, ⟨⟨hg, hcell⟩, _⟩, _⟩, _⟩ := hS
  refine ⟨_, _, _, rfl, hc, by rw [show (bytesV (bytesS s)).length = (bytesS s).length by simp [bytesV], bytesS_length], (fun h => by cases h), fun ad had j u hj => ?_⟩
  cases had
  have hjl : j < s.data.toList.length := by
    have := (List.getElem?_eq_some_iff.1 hj).1
    simpa [bytesV, bytesS] using this
  have h2 := hcell j (by rw [Array.length_toList] at hjl; exact hjl)
  have e : (⟨g, 0, none⟩ : Addr).add j = ⟨g, j, none⟩ := by
    unfold Addr.add; split
    · subst j; rfl
    · simp
  rw [e, h2, ← hj]
  simp [bytesV, bytesS, List.getD_eq_getElem?_getD, List.getElem?_eq_getElem hjl]

theorem form_bit {bs : List Nat} {a k : Nat} {F : List Bool} (hF : bitsAt bs a F.length = F) (hk : k < F.length) : num (bitsAt (pack F) k 1) = b2n (ubit bs (a + k)) := by
  have e : bitsAt (pack F) k 1 = [F[k]] := by
    rw [bitsAt_pack F k 1 (by omega), List.drop_eq_getElem_cons hk]
    rfl
  have e2 : F[k] = ubit bs (a + k) := by
    have h : (bitsAt bs a F.length)[k]? = F[k]? := by rw [hF]
    rw [List.getElem?_eq_getElem hk] at h
    simp only [bitsAt, List.getElem?_map, List.getElem?_range hk, Option.map_some, Option.some.injEq] at h
    exact h.symm
  rw [e, e2]
  simp [num]

set_option maxHeartbeats 2000000 in
set_option maxRecDepth 100000 in
theorem taken_ok (c : Ctx) (R : List HP) (gr ga gw : Nat) (bs : List Nat) (a a2 was : Nat) (F : List Bool) (w : World) (hS : St c (reader gr bs a2 :: reader ga bs a :: writer gw F :: R) w) (hw : 8 * bs.length - a = was) (ha2 : a + F.length = a2) (hl : a2 ≤ 8 * bs.length)
    (hb : bs.length ≤ 140737488355328) (hbs : ∀ b ∈ bs, b < 256) (hF : bitsAt bs a F.length = F) (h40 : F.length ≤ 4000) :
    Calls Tryd.prog 29 #[.int .i64 was, .pointer (some ⟨gr, 0, none⟩), .pointer (some ⟨ga, 0, none⟩), .pointer (some ⟨gw, 0, none⟩)] w fun e w' => e = .returned (.bool true) ∧ St c (reader gr bs a2 :: reader ga bs a2 :: R) w' := by
  have HS := Lib.hid hS
  have HBS := Lib.hid hbs
  have HF := Lib.hid hF
  obtain ⟨fl, hfl⟩ : ∃ n, F.length = n := ⟨_, rfl⟩
  obtain ⟨lf, hlf⟩ : ∃ n, 8 * bs.length - a2 = n := ⟨_, rfl⟩
  have hpl : (pack F).length ≤ 140737488355328 := by rw [pack_length]; omega
  have hp8 : fl ≤ 8 * (pack F).length := by rw [pack_length]; omega
  have eq1 : (was : Int) - (lf : Int) = (fl : Nat) := by omega
  have HFL := Lib.hid hfl
  have HLF := Lib.hid hlf
  have HA2 : Hid (a + fl = a2) := by rw [← hfl]; exact ha2
  have HPL := Lib.hid hpl
  have HBT := Lib.hid (pack_lt F)
  have hfl4 : fl ≤ 4000 := by omega
  have hlb : lf ≤ 1125899906842624 ∧ was ≤ 1125899906842624 := by omega
  obtain ⟨hlb1, hlb2⟩ := hlb
  have hal : a + fl ≤ 8 * bs.length := by omega
  clear hS hbs hF hfl hlf hpl hw ha2 h40
  go_enter Tryd.func29, Tryd.ntmps29
  go_wp2_with fail
  refine (Left_is c _ gr bs a2 lf _ HS.out hl hb HLF.out).mono ?_
  rintro en w1 ⟨rfl, m1, rfl⟩
  have HS1 := Lib.hid (HS.out.drewN m1).back3.back3
  clear HS
  go_wp2_with fail
  refine (Bytes_ok c _ gw F _ HS1.out (by rw [HFL.out]; omega)).mono ?_
  rintro en w2 ⟨g2, m, cp, rfl, hm, hS2⟩
  have HS2 := Lib.hid hS2
  clear hS2 hm HS1
  go_wp2_with fail
  refine (NewReader_ok c _ _ (pack F) _ HS2.out (Rd.of_mem (List.mem_cons_self ..)) HPL.out).mono ?_
  rintro en w3 ⟨g3, rfl, hS3⟩
  have HS3 := Lib.hid hS3.swap.drop
  clear hS3 HS2
  have t1 : decide ((5000 : Int) < fl) = false := by rw [decide_eq_false_iff_not]; omega
  have t2 : decide (5000 < fl) = false := by rw [decide_eq_false_iff_not]; omega
  go_wp2_with fail
  refine (Len_q c _ gw F _ HS3.out.swap).mono ?_
  rw [HFL.out]
  rintro en w4 ⟨rfl, m4, rfl⟩
  have HS4 := Lib.hid (HS3.out.drewN m4).swap.drop.rot3
  clear HS3
  go_wp2_with fail
  go_loopw [11] (fun v w' => ∃ k : Nat, v = .int .i64 (k : Nat) ∧ k ≤ fl ∧ Hid (St c (reader ga bs (a + k) :: reader g3 (pack F) k :: reader gr bs a2 :: R) w')) (fun v _ => fl - (intOf v).toNat)
  case atStart => exact ⟨0, rfl, by omega, HS4.out⟩
  case round =>
    obtain ⟨k, rfl, hk, hS⟩ := hrel
    by_cases hkf : k < fl
    · obtain ⟨b, hbb⟩ : ∃ b, b2n (ubit bs (a + k)) = b := ⟨_, rfl⟩
      have h1 : num (bitsAt bs (a + k) 1) = b := by rw [← hbb]; exact bit_at rfl
      have h2 : num (bitsAt (pack F) k 1) = b := by rw [← hbb]; exact form_bit HF.out (by rw [HFL.out]; exact hkf)
      have H1 := Lib.hid h1
      have H2 := Lib.hid h2
      clear h1 h2 hbb
      go_wp2_with fail
      refine (Get_is c _ ga bs (a + k) 1 b _ hS.out (by decide) (by omega) hb HBS.out H1.out (a + (k + 1)) (by omega)).mono ?_
      rintro en w5 ⟨rfl, hS5⟩
      have HS5 := Lib.hid hS5.swap
      clear hS5 hS
      go_wp2_with fail
      refine (Get_is c _ g3 (pack F) k 1 b _ HS5.out (by decide) (by omega) HPL.out HBT.out H2.out (k + 1) rfl).mono ?_
      rintro en w6 ⟨rfl, hS6⟩
      have HS6 := Lib.hid hS6.swap
      clear hS6 HS5
      go_wp2_with fail
      go_roundw
      case rel => exact ⟨k + 1, by go_num, by omega, HS6⟩
      case measure => simp [intOf]; omega
    · have hkf : k = fl := by omega
      subst hkf
      rw [HA2.out] at hS
      go_wp2_with fail
      go_ret
      exact ⟨rfl, hS.out.swap.drop.swap⟩

end Go.Proofs.YtakmkjdmonmilaaDoor
