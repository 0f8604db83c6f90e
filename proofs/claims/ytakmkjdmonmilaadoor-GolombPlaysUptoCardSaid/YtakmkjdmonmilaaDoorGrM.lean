import Derived.Test.YtakmkjdmonmilaaDoorGrF
import Derived.Test.YtakmkjdmonmilaaDoorGrJ
import Derived.Test.YtakmkjdmonmilaaDoorGrL
/-! Both sides answer alike. -/
namespace Go.Proofs.YtakmkjdmonmilaaDoor
set_option linter.unusedSimpArgs false
set_option linter.unusedVariables false
open Go Go.RowKit

theorem getL_fits (l : List Bool) (k wide : Nat) : (getL l k wide).2.2 ≤ l.length := by
  unfold getL
  split
  · split
    · exact Nat.zero_le _
    · split
      · exact Nat.zero_le _
      · simp only; omega
  · split
    · exact Nat.zero_le _
    · split
      · exact Nat.zero_le _
      · simp only; omega
theorem skipL_fits (l : List Bool) (n : Nat) : (skipL l n).2.2 ≤ l.length := by
  unfold skipL
  split
  · exact Nat.zero_le _
  · split
    · exact Nat.zero_le _
    · simp only; omega
theorem runL_fits : ∀ (l : List Bool) (r left : Nat), r ≤ 22 → (runL l r left).2.2.1 ≤ l.length ∧ (runL l r left).2.2.2 ≤ 22
  | l, r, 0, hr => by rw [runL_zero]; exact ⟨Nat.zero_le _, hr⟩
  | [], r, left + 1, hr => ⟨Nat.zero_le _, hr⟩
  | true :: t, r, left + 1, hr => by
    simp only [runL]
    split
    · have := runL_fits t (min (r + 1) 22) (left + 1 - 2 ^ J r) (by omega)
      simp only [List.length_cons]
      omega
    · simp only [List.length_cons]; omega
  | false :: t, r, left + 1, hr => by
    simp only [runL]
    split
    · simp only; omega
    · split
      · simp only; omega
      · simp only [List.length_cons]; omega
theorem rform_len (r n room : Nat) (hr : r ≤ 22) (hn : n ≤ 4096) : (rform r n room).length ≤ 4200 := by
  have h := runGo_facts n r hr
  have hj := J_le (runGo r n).2.1
  unfold rform
  rw [List.length_append, List.length_replicate]
  split
  · rw [List.length_cons, bitsOf_length]; omega
  · split
    · rw [List.length_singleton]; omega
    · rw [List.length_nil]; omega
theorem rnext_le (r n room : Nat) (hr : r ≤ 22) : rnext r n room ≤ 22 := by
  have h := runGo_facts n r hr
  unfold rnext
  split <;> omega

theorem get_two (bs : List Nat) (at_ : Nat) (k wide : Int) (ha : at_ ≤ 8 * bs.length) (hb : bs.length ≤ 4400000000) (hbs : ∀ b ∈ bs, b < 256) : ∃ (a x : Int) (m : Nat), m ≤ 8 * bs.length ∧
    (∀ (c : Ctx) (R : List HP) (g : Nat) (w : World), St c (reader g bs at_ :: R) w → Calls Tryd.prog 24 #[.pointer (some ⟨g, 0, none⟩), .int .i64 k, .int .i64 wide] w fun en w' => en = .returned (.tuple #[.int .i64 a, .int .i64 x]) ∧ St c (reader g bs m :: R) w') ∧
    ∀ (c : Ctx) (R : List HP) (g : Nat) (w : World), St c (rreader g (unpack bs) at_ :: R) w → Calls Tryd.prog 53 #[.pointer (some ⟨g, 0, none⟩), .int .i64 k, .int .i64 wide] w fun en w' => en = .returned (.tuple #[.int .i64 a, .int .i64 x]) ∧ St c (rreader g (unpack bs) m :: R) w' := by
  by_cases hp : parOk k wide
  · obtain ⟨k, wide, rfl, rfl, h1, h2, h3⟩ := nat_par hp
    have hf := getL_fits ((unpack bs).drop at_) k wide
    rw [left_len] at hf
    exact ⟨_, _, at_ + (getL ((unpack bs).drop at_) k wide).2.2, by omega, fun c R g w hS => GGet_fun c R g bs at_ k wide w hS h1 h2 h3 ha (by omega) hbs,
      fun c R g w hS => rGet_fun c R g (unpack bs) at_ k wide w hS h1 h2 h3 (by rw [unpack_length]; exact ha) (by rw [unpack_length]; omega)⟩
  · exact ⟨0, 21, at_, ha, fun c R g w hS => (GGet_par g k wide w hp).mono fun e w' ⟨a, b⟩ => ⟨a, b ▸ hS⟩, fun c R g w hS => (rGet_par g k wide w hp).mono fun e w' ⟨a, b⟩ => ⟨a, b ▸ hS⟩⟩
theorem skip_two (bs : List Nat) (at_ n : Nat) (ha : at_ ≤ 8 * bs.length) (hb : bs.length ≤ 4400000000) (hbs : ∀ b ∈ bs, b < 256) (hn : n ≤ 40) : ∃ (a x : Int) (m : Nat), m ≤ 8 * bs.length ∧
    (∀ (c : Ctx) (R : List HP) (g : Nat) (w : World), St c (reader g bs at_ :: R) w → Calls Tryd.prog 30 #[.pointer (some ⟨g, 0, none⟩), .int .i64 n] w fun en w' => en = .returned (.tuple #[.int .u32 a, .int .i64 x]) ∧ St c (reader g bs m :: R) w') ∧
    ∀ (c : Ctx) (R : List HP) (g : Nat) (w : World), St c (rreader g (unpack bs) at_ :: R) w → Calls Tryd.prog 57 #[.pointer (some ⟨g, 0, none⟩), .int .i64 n] w fun en w' => en = .returned (.tuple #[.int .u32 a, .int .i64 x]) ∧ St c (rreader g (unpack bs) m :: R) w' := by
  have hf := skipL_fits ((unpack bs).drop at_) n
  rw [left_len] at hf
  exact ⟨_, _, at_ + (skipL ((unpack bs).drop at_) n).2.2, by omega, fun c R g w hS => BGet_fun c R g bs at_ n w hS ha (by omega) hbs,
    fun c R g w hS => rBGet_fun c R g (unpack bs) at_ n w hS (by rw [unpack_length]; exact ha) (by rw [unpack_length]; omega) hn⟩
theorem runput_two (r : Nat) (n room : Int) (hr : r ≤ 22) : ∃ (x : Int) (F : List Bool) (r' : Nat), r' ≤ 22 ∧ F.length ≤ 4200 ∧
    (∀ (W : World) (R : List HP) (g g2 : Nat) (l : List Bool) (w : World), Tab W → St (top W) (runs g r :: writer g2 l :: R) w → l.length ≤ 140737488000000 → Calls Tryd.prog 16 #[.pointer (some ⟨g, 0, none⟩), .pointer (some ⟨g2, 0, none⟩), .int .i64 n, .int .i64 room] w fun en w' => en = .returned (.int .i64 x) ∧ St (top W) (runs g r' :: writer g2 (l ++ F) :: R) w') ∧
    ∀ (c : Ctx) (R : List HP) (g g2 : Nat) (l : List Bool) (w : World), St c (rruns g r :: rwriter g2 l :: R) w → l.length ≤ 140737488000000 → Calls Tryd.prog 54 #[.pointer (some ⟨g, 0, none⟩), .pointer (some ⟨g2, 0, none⟩), .int .i64 n, .int .i64 room] w fun en w' => en = .returned (.int .i64 x) ∧ St c (rruns g r' :: rwriter g2 (l ++ F) :: R) w' := by
  by_cases h : 1 ≤ room ∧ room ≤ 4096
  · by_cases hn : 0 ≤ n ∧ n ≤ room
    · obtain ⟨n, rfl⟩ : ∃ n' : Nat, n = n' := ⟨n.toNat, by omega⟩
      obtain ⟨room, rfl⟩ : ∃ n' : Nat, room = n' := ⟨room.toNat, by omega⟩
      exact ⟨0, rform r n room, rnext r n room, rnext_le r n room hr, rform_len r n room hr (by omega), fun W R g g2 l w hT hS hl => RPut_ok W hT R g g2 r n room l w hS hr (by omega) (by omega) (by omega) (by omega),
        fun c R g g2 l w hS hl => rRPut_ok c R g g2 r n room l w hS hr (by omega) (by omega) (by omega) hl⟩
    · exact ⟨22, [], r, hr, by simp, fun W R g g2 l w hT hS _ => (RPut_val g g2 n room w h hn).mono fun e w' ⟨a, b⟩ => ⟨a, by rw [List.append_nil]; exact b ▸ hS⟩, fun c R g g2 l w hS _ => (rRPut_val g g2 n room w h hn).mono fun e w' ⟨a, b⟩ => ⟨a, by rw [List.append_nil]; exact b ▸ hS⟩⟩
  · exact ⟨1, [], r, hr, by simp, fun W R g g2 l w hT hS _ => (RPut_arg g g2 n room w h).mono fun e w' ⟨a, b⟩ => ⟨a, by rw [List.append_nil]; exact b ▸ hS⟩, fun c R g g2 l w hS _ => (rRPut_arg g g2 n room w h).mono fun e w' ⟨a, b⟩ => ⟨a, by rw [List.append_nil]; exact b ▸ hS⟩⟩
theorem RunPost.one {F : Nat → Nat → World → Prop} {X : Int × Nat × Nat × Nat} {r at_ room : Nat} {e : Ending} {w' : World} (h : RunPost F X r at_ room e w') :
    e = .returned (.tuple #[.int .i64 (if X.1 = 0 then (room : Int) - (X.2.1 : Int) else 0), .int .i64 X.1]) ∧ F (if X.1 = 0 then X.2.2.2 else r) (if X.1 = 0 then at_ + X.2.2.1 else at_) w' := by
  rcases h with ⟨h0, rfl, h⟩ | ⟨h0, rfl, h⟩
  · rw [if_pos h0, if_pos h0, if_pos h0, h0]
    exact ⟨rfl, h⟩
  · rw [if_neg h0, if_neg h0, if_neg h0]
    exact ⟨rfl, h⟩
theorem runget_two (bs : List Nat) (at_ r : Nat) (room : Int) (ha : at_ ≤ 8 * bs.length) (hb : bs.length ≤ 4400000000) (hbs : ∀ b ∈ bs, b < 256) (hr : r ≤ 22) : ∃ (a x : Int) (r' m : Nat), r' ≤ 22 ∧ m ≤ 8 * bs.length ∧
    (∀ (W : World) (R : List HP) (g g2 : Nat) (w : World), Tab W → St (top W) (runs g r :: reader g2 bs at_ :: R) w → Calls Tryd.prog 27 #[.pointer (some ⟨g, 0, none⟩), .pointer (some ⟨g2, 0, none⟩), .int .i64 room] w fun en w' => en = .returned (.tuple #[.int .i64 a, .int .i64 x]) ∧ St (top W) (runs g r' :: reader g2 bs m :: R) w') ∧
    ∀ (c : Ctx) (R : List HP) (g g2 : Nat) (w : World), St c (rruns g r :: rreader g2 (unpack bs) at_ :: R) w → Calls Tryd.prog 55 #[.pointer (some ⟨g, 0, none⟩), .pointer (some ⟨g2, 0, none⟩), .int .i64 room] w fun en w' => en = .returned (.tuple #[.int .i64 a, .int .i64 x]) ∧ St c (rruns g r' :: rreader g2 (unpack bs) m :: R) w' := by
  by_cases h : 1 ≤ room ∧ room ≤ 4096
  · obtain ⟨room, rfl⟩ : ∃ n' : Nat, room = n' := ⟨room.toNat, by omega⟩
    have hf := runL_fits ((unpack bs).drop at_) r room hr
    rw [left_len] at hf
    refine ⟨_, _, _, _, ?_, ?_, fun W R g g2 w hT hS => (RGet_fun W hT R g g2 r room bs at_ w hS hr (by omega) (by omega) ha (by omega) hbs).mono fun e w' h => h.one,
      fun c R g g2 w hS => (rRGet_fun c R g g2 r room (unpack bs) at_ w hS hr (by omega) (by omega) (by rw [unpack_length]; exact ha) (by rw [unpack_length]; omega)).mono fun e w' h => h.one⟩
    · split <;> omega
    · split <;> omega
  · exact ⟨0, 1, r, at_, hr, ha, fun W R g g2 w hT hS => (RGet_arg g g2 room w h).mono fun e w' ⟨a, b⟩ => ⟨a, b ▸ hS⟩, fun c R g g2 w hS => (rRGet_arg g g2 room w h).mono fun e w' ⟨a, b⟩ => ⟨a, b ▸ hS⟩⟩
end Go.Proofs.YtakmkjdmonmilaaDoor
