import Derived.Test.YthpkdephkhcgmaaBk8B
import Derived.Laws.BitsAllLaws
/-! Lists that are lent, and got back. -/
namespace Go.Proofs.Ythpkdephkhcgmaa
set_option linter.unusedSimpArgs false
set_option linter.unusedVariables false
open Go Go.RowKit Go.Proofs.YthpkdephkhcgmaaW.PrintWords Go.Proofs.YthpkdephkhcgmaaW.PrintLast

def full708 (l : List Int) : List Int := l ++ List.replicate 70 167
theorem full708_length (l : List Int) : (full708 l).length = l.length + 70 := by simp [full708]
def lentRow8 (g : Nat) (l : List Int) : HP := row 5 1 (.slice (some ⟨g, 0, none⟩) (l.length + 70) (l.length + 70)) (l.length + 70) (nums .u8 (full708 l))
theorem fill_step8 (l : List Int) (j m : Nat) (hj : j < m) : (nums .u8 (l ++ (List.replicate j 167 ++ List.replicate (m - j) 0))).set (l.length + j) (.int .u8 167) = nums .u8 (l ++ (List.replicate (j + 1) 167 ++ List.replicate (m - (j + 1)) 0)) := by
  have e : m - j = (m - (j + 1)) + 1 := by omega
  have h1 : (nums .u8 (l ++ (List.replicate j 167 ++ List.replicate (m - j) 0))) = nums .u8 (l ++ List.replicate j 167) ++ nums .u8 (List.replicate (m - j) 0) := by rw [← List.append_assoc, nums_append]
  have h2 : (nums .u8 (l ++ List.replicate j 167)).length = l.length + j := by rw [nums_length]; simp
  rw [h1, List.set_append_right _ _ (by omega), h2, Nat.sub_self, e, List.replicate_succ]
  have h3 : (nums .u8 (0 :: List.replicate (m - (j + 1)) 0)).set 0 (.int .u8 167) = nums .u8 ([167] ++ List.replicate (m - (j + 1)) 0) := rfl
  rw [h3, ← nums_append, List.append_assoc, List.replicate_succ', List.append_assoc]
set_option maxHeartbeats 2000000 in
set_option maxRecDepth 100000 in
theorem lent8_ok (w : World) (A : Option Addr) (cap : Nat) (l : List Int) (hC : Kd.C (Kd.int .u8) w A l.length l) (hl : l.length * 1 ≤ 140737488351232) :
    Calls Try.prog 12 #[.slice A l.length cap] w fun e w' => ∃ g, e = .returned (.slice (some ⟨g, 0, none⟩) l.length (l.length + 70)) ∧ St (top w) [lentRow8 g l] w' := by
  have HS := Lib.hid (St.top w)
  have HC := Lib.hid hC
  clear hC
  go_enter Try.func12, Try.ntmps12
  go_wp2_with (at_make; go_must (refine St.make1 rfl _ _ _ rfl elemE8 rfl (l.length + 70) rfl rfl HS.out (by omega) (by unfold maxLen; omega) ?_))
  intro g w1 hS1
  have HS1 := Lib.hid hS1
  clear hS1
  go_wp2_with ((with_reducible refine at_dst 11 rfl ?_); go_must (refine St.copyC (ys := nums .u8 l) rfl _ _ _ _ rfl elemE8 rfl rfl (nums_length ..) ?_ (nums_one .u8 l) HS1.out (by omega) ?_))
  · intro h0
    obtain ⟨b, off, rfl, hcell⟩ := C_reads (Kd.C_below HC.out HS1.out.below) h0
    refine ⟨_, rfl, fun j u hj => ?_⟩
    have hjl : j < l.length := by have := (List.getElem?_eq_some_iff.1 hj).1; rwa [nums_length] at this
    rw [Addr.add_lit, hcell j hjl, ← hj]
    simp [nums, List.getD_eq_getElem?_getD, List.getElem?_eq_getElem hjl]
  intro w2 hS2
  have e1 : (nums .u8 l).take (l.length + 70) ++ List.replicate (l.length + 70 - min (l.length + 70) (nums .u8 l).length) (Value.int .u8 0) = nums .u8 (l ++ (List.replicate 0 167 ++ List.replicate (70 - 0) 0)) := by
    have e0 := nums_length .u8 l
    rw [List.take_of_length_le (by omega), e0, nums_append, show l.length + 70 - min (l.length + 70) l.length = 70 by omega]
    simp [nums]
  rw [e1] at hS2
  have HS2 := Lib.hid hS2
  have hb1 : (l.length : Int) ≤ (l.length : Int) + 70 := by omega
  clear hS2 e1 HS1 HS
  go_wp2_with fail
  go_loopw [4] (fun v w' => ∃ j : Nat, v = .int .i64 ((l.length + j : Nat) : Int) ∧ j ≤ 70 ∧ Hid (St (top w) [row 5 1 (.slice (some ⟨g, 0, none⟩) (l.length + 70) (l.length + 70)) (l.length + 70) (nums .u8 (l ++ (List.replicate j 167 ++ List.replicate (70 - j) 0)))] w')) (fun v _ => l.length + 70 - (intOf v).toNat)
  case atStart => exact ⟨0, by simp, by omega, HS2⟩
  case round =>
    obtain ⟨j, rfl, hj, hS⟩ := hrel
    by_cases hlt : j < 70
    · have hfz := hS.out.rowAt (by omega)
      obtain ⟨g', cap', e, _, _, hcell, hfr⟩ := hfz
      have e' : g' = g := by cases e; rfl
      subst e'
      have hc := hcell (l.length + j) (by omega)
      have hf := hfr (l.length + j)
      have hx : (nums .u8 (l ++ (List.replicate j 167 ++ List.replicate (70 - j) 0)))[l.length + j]? = some (.int .u8 0) := by
        simp [nums, List.getElem?_append_right, List.getElem?_replicate, hlt]
        omega
      rw [hx] at hc
      have hnew := hS.out.setRow (l.length + j) (.int .u8 167)
      rw [fill_step8 l j 70 hlt] at hnew
      have HN := Lib.hid hnew
      clear hx hnew hcell hfr hS e
      go_wp2_with fail
      go_roundw
      case rel => exact ⟨j + 1, by go_num, by omega, HN⟩
      case measure => simp [intOf]; omega
    · obtain rfl : j = 70 := by omega
      go_wp2_with fail
      go_ret
      have h := hS.out
      rw [show 70 - 70 = 0 from rfl, List.replicate_zero, List.append_nil] at h
      exact ⟨g, rfl, h⟩

/-- What an owner writes over. -/
def xb8 (v : Int) : Int := bits .xor .u8 v 90
theorem xb8_bd (v : Int) (h0 : 0 ≤ v) (h1 : v ≤ 255) : 0 ≤ xb8 v ∧ xb8 v ≤ 255 := by
  obtain ⟨n, rfl⟩ := Int.eq_ofNat_of_zero_le h0
  unfold xb8
  rw [show (90 : Int) = ((90 : Nat) : Int) from rfl, u8_xor_nat _ _ (by omega) (by omega)]
  have : n ^^^ 90 < 2 ^ 8 := Nat.xor_lt_two_pow (by omega) (by omega)
  omega
def xorB8 (l : List Int) : Nat → List Int
  | 0 => l
  | k + 1 => (xorB8 l k).set k (xb8 (l.getD k 0))
theorem xorB8_length (l : List Int) : ∀ k, (xorB8 l k).length = l.length
  | 0 => rfl
  | k + 1 => by rw [xorB8, List.length_set]; exact xorB8_length l k
theorem xorB8_at (l : List Int) (j : Nat) : ∀ k, k ≤ j → (xorB8 l k).getD j 0 = l.getD j 0
  | 0, _ => rfl
  | k + 1, h => by
    have := xorB8_at l j k (by omega)
    rw [xorB8, List.getD_eq_getElem?_getD, List.getElem?_set_ne (by omega), ← List.getD_eq_getElem?_getD, this]
theorem xorB8_bd (l : List Int) (h : ∀ v ∈ l, 0 ≤ v ∧ v ≤ 255) : ∀ k, k ≤ l.length → ∀ v ∈ xorB8 l k, 0 ≤ v ∧ v ≤ 255
  | 0, _, v, hv => h v hv
  | k + 1, hk, v, hv => by
    rcases List.mem_or_eq_of_mem_set hv with h1 | rfl
    · exact xorB8_bd l h k (by omega) v h1
    · have hm : l.getD k 0 ∈ l := by rw [List.getD_eq_getElem?_getD, List.getElem?_eq_getElem (by omega)]; exact List.getElem_mem (by omega)
      have := h _ hm
      exact xb8_bd _ this.1 this.2
/-- The list, as its owner has written it over. -/
def backL8 (l : List Int) : List Int := (xorB8 (full708 l) (l.length + 70)).take l.length
theorem backL8_length (l : List Int) : (backL8 l).length = l.length := by unfold backL8; rw [List.length_take, xorB8_length, full708_length]; omega
theorem backL8_bd (l : List Int) (h : ∀ v ∈ l, 0 ≤ v ∧ v ≤ 255) : ∀ v ∈ backL8 l, 0 ≤ v ∧ v ≤ 255 := by
  intro v hv
  refine xorB8_bd (full708 l) (fun u hu => ?_) (l.length + 70) (by rw [full708_length]; exact Nat.le_refl _) v (List.mem_of_mem_take hv)
  unfold full708 at hu
  rcases List.mem_append.1 hu with h1 | h1
  · exact h u h1
  · rw [(List.mem_replicate.1 h1).2]; decide
/-- The row behind that. -/
def overRow8 (g : Nat) (l : List Int) : HP := row 5 1 (.slice (some ⟨g, 0, none⟩) (l.length + 70) (l.length + 70)) (l.length + 70) (nums .u8 (xorB8 (full708 l) (l.length + 70)))
section
variable {c : Ctx} {R : List HP} {w : World} {g : Nat} {l : List Int}
theorem lentRow8C (h : St c (lentRow8 g l :: R) w) : Kd.C (Kd.int .u8) w (some ⟨g, 0, none⟩) l.length l := by
  have h1 : St c (inner 5 .u8 (.slice (some ⟨g, 0, none⟩) (l.length + 70) (l.length + 70)) (full708 l) :: R) w := by unfold inner; rw [full708_length]; exact h
  have h3 := Kd.C_take (m := l.length) h1.innerC'.2.2 (by rw [full708_length]; omega)
  have e2 : (full708 l).take l.length = l := by unfold full708; exact List.take_left' rfl
  rw [e2] at h3
  exact h3
theorem overRow8C (h : St c (overRow8 g l :: R) w) : Kd.C (Kd.int .u8) w (some ⟨g, 0, none⟩) l.length (backL8 l) := by
  have hx : (xorB8 (full708 l) (l.length + 70)).length = l.length + 70 := by rw [xorB8_length, full708_length]
  have h1 : St c (inner 5 .u8 (.slice (some ⟨g, 0, none⟩) (l.length + 70) (l.length + 70)) (xorB8 (full708 l) (l.length + 70)) :: R) w := by unfold inner; rw [hx]; exact h
  have h3 := Kd.C_take (m := l.length) h1.innerC'.2.2 (by rw [hx]; omega)
  have e : ((xorB8 (full708 l) (l.length + 70)).take l.length).length = l.length := backL8_length l
  rw [e] at h3
  exact h3
end
set_option maxHeartbeats 4000000 in
set_option maxRecDepth 100000 in
theorem back8_ok (c : Ctx) (R : List HP) (w : World) (g : Nat) (A2 : Option Addr) (cap2 : Nat) (l : List Int) (hS : St c (lentRow8 g l :: R) w) (hC : ∀ L w', St c L w' → Kd.C (Kd.int .u8) w' A2 l.length l) (hl : l.length ≤ 140737488351232) :
    Calls Try.prog 15 #[.slice (some ⟨g, 0, none⟩) l.length (l.length + 70), .slice A2 l.length cap2] w fun e w' => e = .returned (.bool true) ∧ St c (overRow8 g l :: R) w' := by
  obtain ⟨n, hn⟩ : ∃ q, l.length = q := ⟨_, rfl⟩
  have hS0 : St c (row 5 1 (.slice (some ⟨g, 0, none⟩) (n + 70) (n + 70)) (n + 70) (nums .u8 (xorB8 (full708 l) 0)) :: R) w := by rw [← hn]; exact hS
  have HN := Lib.hid hn
  have HC := Lib.hid hC
  have H0 := Lib.hid hS0
  rw [hn] at hl
  have hov : Hid (overRow8 g l = row 5 1 (.slice (some ⟨g, 0, none⟩) (n + 70) (n + 70)) (n + 70) (nums .u8 (xorB8 (full708 l) (n + 70)))) := by rw [← hn]; rfl
  rw [hn]
  clear hS hS0 hC hn
  have hb1 : (n : Int) + 70 ≤ (n : Int) + 70 := Int.le_refl _
  go_enter Try.func15, Try.ntmps15
  go_wp2_with fail
  go_loopw [6, 7] (fun v6 v w' => ∃ k : Nat, v6 = .bool true ∧ v = .int .i64 (k : Nat) ∧ k ≤ n + 70 ∧ Hid (St c (row 5 1 (.slice (some ⟨g, 0, none⟩) (n + 70) (n + 70)) (n + 70) (nums .u8 (xorB8 (full708 l) k)) :: R) w')) (fun _ v _ => n + 70 - (intOf v).toNat)
  case atStart => exact ⟨0, rfl, rfl, by omega, H0⟩
  case round =>
    clear H0
    obtain ⟨k, rfl, rfl, hk, hS⟩ := hrel
    by_cases hkl : k < n + 70
    · have hfl : (xorB8 (full708 l) k).length = n + 70 := by rw [xorB8_length, full708_length, HN.out]
      obtain ⟨g', cap', e, -, -, hcell, hfr⟩ := hS.out.rowAt (by omega)
      cases e
      have hc := hcell k (by omega)
      rw [nums_at _ _ _ (by rw [hfl]; exact hkl), xorB8_at _ k k (Nat.le_refl _)] at hc
      have hf := hfr k
      have hnew := hS.out.setRow k (.int .u8 (xb8 ((full708 l).getD k 0)))
      rw [nums_set] at hnew
      have hnew2 : St c (row 5 1 (.slice (some ⟨g, 0, none⟩) (n + 70) (n + 70)) (n + 70) (nums .u8 (xorB8 (full708 l) (k + 1))) :: R) _ := hnew
      obtain ⟨x, hx⟩ : ∃ q, (full708 l).getD k 0 = q := ⟨_, rfl⟩
      rw [hx] at hc hnew2
      have HZ := Lib.hid hnew2
      have HXB : Hid (bits .xor .u8 x 90 = xb8 x) := rfl
      have t1 : (0 : Int) ≤ (k : Int) := by omega
      have t2 : (k : Int) < (n : Int) + 70 := by omega
      have t3 : (x == x) = true := beq_self_eq_true _
      by_cases hkn : k < n
      · obtain ⟨b2, o2, rfl, hd2⟩ := C_reads (HC.out _ _ hS.out) (by rw [HN.out]; omega)
        have hv := hd2 k (by rw [HN.out]; exact hkn)
        have hxl : l.getD k 0 = x := by
          rw [← hx]; unfold full708
          rw [List.getD_eq_getElem?_getD, List.getD_eq_getElem?_getD, List.getElem?_append_left (by rw [HN.out]; exact hkn)]
        rw [hxl] at hv
        have t4 : (k : Int) < n := by omega
        have hxb := HXB.out
        clear hcell hfr hnew hnew2 hS hx hfl hd2 hxl
        go_wp2_with fail
        go_roundw
        case rel => exact ⟨k + 1, rfl, by go_num, by omega, HZ⟩
        case measure => simp [intOf]; omega
      · have hxl : x = 167 := by
          rw [← hx]; unfold full708
          rw [List.getD_eq_getElem?_getD, List.getElem?_append_right (by rw [HN.out]; omega), List.getElem?_replicate, if_pos (by rw [HN.out]; omega)]; rfl
        subst hxl
        have t4 : ¬ (k : Int) < n := by omega
        have hxb := HXB.out
        clear hcell hfr hnew hnew2 hS hx hfl t3
        go_wp2_with fail
        go_roundw
        case rel => exact ⟨k + 1, rfl, by go_num, by omega, HZ⟩
        case measure => simp [intOf]; omega
    · have hkl : k = n + 70 := by omega
      subst hkl
      have h := hS.out
      rw [← hov.out] at h
      have HF := Lib.hid h
      clear hS h
      go_wp2_with fail
      go_ret
      exact ⟨rfl, HF.out⟩
end Go.Proofs.Ythpkdephkhcgmaa
