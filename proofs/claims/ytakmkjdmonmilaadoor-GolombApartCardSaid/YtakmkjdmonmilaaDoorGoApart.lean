import Derived.Test.YtakmkjdmonmilaaDoorGoM
import Derived.Test.YtakmkjdmonmilaaDoorGoBack
namespace Go.Proofs.YtakmkjdmonmilaaDoor
set_option linter.unusedSimpArgs false
set_option linter.unusedVariables false
open Go Go.RowKit

theorem arg_raw {H : Type} {enc : TypeId × Value → H} {W : World} {base : Nat} {v : Value} (h : Arg enc Tryd.prog W base 23 v) :
    ∃ x0 x1 x2 : Int, v = .agg #[.int .i64 x0, .int .i64 x1, .int .i64 x2] ∧ in64 x0 ∧ in64 x1 ∧ in64 x2 := by
  have h2 := h.2
  obtain ⟨cs, rfl, _, _⟩ := arg_struct Tryd.underlying23 h
  have h3 : Ok enc Tryd.prog W 23 cs := by simpa [Value.cells] using h2
  obtain ⟨⟨x0, x1, x2⟩, rfl, r⟩ := ok_raw cs h3
  exact ⟨x0, x1, x2, rfl, r⟩

theorem strB_size (l : List Nat) : (strB l).size = l.length := by simp [strB, ByteArray.size]

theorem ext_take (s : ByteArray) (n : Nat) : (s.extract 0 n).toList = s.data.toList.take n := by
  obtain ⟨⟨l⟩⟩ := s
  rw [ByteArray.extract_mk]
  simp
theorem char_inj {a b : Bool} (h : UInt8.ofNat (48 + b2n a) = UInt8.ofNat (48 + b2n b)) : a = b := by
  revert h; cases a <;> cases b <;> decide
theorem chars_inj : ∀ {l m : List Bool}, (chars l).map UInt8.ofNat = (chars m).map UInt8.ofNat → l = m
  | [], [], _ => rfl
  | [], _ :: _, h => by simp [chars] at h
  | _ :: _, [], h => by simp [chars] at h
  | a :: l, b :: m, h => by
    simp only [chars, List.map_cons, List.cons.injEq] at h
    rw [char_inj h.1, chars_inj h.2]
theorem take_pack {F G rest : List Bool} {a b k wide : Nat} (ha : a < 2 ^ wide) (hb : b < 2 ^ wide) (hF : gform a k wide = F) (hG : gform b k wide = G) (h : G = F ++ rest) : a = b := by
  have h1 := form_pack (A := []) (rest := rest) (B := G) hF (by rw [h]; rfl)
  have h2 := form_pack (A := []) (rest := []) (B := G) hG (by simp)
  exact form_one ha hb h1 h2
theorem no_prefix {FA FB : List Bool} {a b k wide n : Nat} (ha : a < 2 ^ wide) (hb : b < 2 ^ wide) (hF : gform a k wide = FA) (hG : gform b k wide = FB) (hab : ¬ a = b) (hn : n = FA.length ∧ n ≤ FB.length ∨ n = FB.length ∧ n ≤ FA.length) :
    (((strB (chars FA)).extract 0 n).toList == ((strB (chars FB)).extract 0 n).toList) = false := by
  rw [beq_eq_false_iff_ne]
  intro h
  rw [ext_take, ext_take] at h
  have e : ∀ l : List Bool, (strB (chars l)).data.toList.take n = (chars (l.take n)).map UInt8.ofNat := by
    intro l; simp [strB, chars, List.map_take]
  rw [e, e] at h
  have h := chars_inj h
  rcases hn with ⟨h1, h2⟩ | ⟨h1, h2⟩
  · rw [List.take_of_length_le (by omega)] at h
    exact hab (take_pack ha hb hF hG (rest := FB.drop n) (by rw [h]; exact (List.take_append_drop n FB).symm))
  · rw [List.take_of_length_le (l := FB) (by omega)] at h
    exact hab (take_pack hb ha hG hF (rest := FA.drop n) (by rw [← h]; exact (List.take_append_drop n FA).symm)).symm
theorem len_mono {a b k wide : Nat} (h : a ≤ b) (hu : b / 2 ^ k < 24) : (gform a k wide).length ≤ (gform b k wide).length := by
  have : a / 2 ^ k ≤ b / 2 ^ k := Nat.div_le_div_right h
  rw [gform_length, gform_length, if_pos hu]
  generalize b / 2 ^ k = u at *
  generalize a / 2 ^ k = t at *
  rw [if_pos (by omega)]
  omega

set_option maxHeartbeats 4000000 in
set_option maxRecDepth 100000 in
theorem golombApart_walk {H : Type} {enc : TypeId × Value → H} (W : World) (hT : Tab W) (base : Nat) (v0 v1 : Value) (a0 : Arg enc Tryd.prog W base 23 v0) (a1 : Arg enc Tryd.prog W base 23 v1) :
    Calls Tryd.prog 3 #[v0, v1] W fun e W' => e = .returned (.bool true) ∧ Below W.heap.size W W' := by
  obtain ⟨x0, x1, x2, rfl, i0, i1, i2⟩ := arg_raw a0
  obtain ⟨y0, y1, y2, rfl, j0, j1, j2⟩ := arg_raw a1
  have HT := Lib.hid hT
  clear hT a0 a1 j1 j2
  have hww := rWide_le (x0, x1, x2)
  have hvv := rV_lt (x0, x1, x2)
  have hkk := rK_le (x0, x1, x2)
  obtain ⟨wd, hwd⟩ : ∃ q, rWide (x0, x1, x2) = q := ⟨_, rfl⟩
  obtain ⟨aa, hv⟩ : ∃ q, rV (x0, x1, x2) = q := ⟨_, rfl⟩
  obtain ⟨kk, hkq⟩ : ∃ q, rK (x0, x1, x2) = q := ⟨_, rfl⟩
  rw [hwd, hv] at hvv
  rw [hwd] at hww
  rw [hkq] at hkk
  obtain ⟨p, hp⟩ : ∃ p, 2 ^ wd = p := ⟨_, rfl⟩
  have hp0 : 0 < p := by rw [← hp]; exact Nat.two_pow_pos _
  have hp1 : p ≤ 65536 := by rw [← hp]; exact (Nat.pow_le_pow_right (n := 2) (by decide) hww.2 : 2 ^ wd ≤ 2 ^ 16)
  have hpw := pow_wrap wd (by omega)
  rw [hp] at hpw
  obtain ⟨bb, hb⟩ : ∃ q, pickN y0 p = q := ⟨_, rfl⟩
  have hbb : bb < p := by rw [← hb]; exact pickN_lt _ _ hp0
  have hbp : bb < 2 ^ wd := by rw [hp]; exact hbb
  obtain ⟨FA, hFA⟩ : ∃ F, gform aa kk wd = F := ⟨_, rfl⟩
  obtain ⟨FB, hFB⟩ : ∃ F, gform bb kk wd = F := ⟨_, rfl⟩
  have HWD := Lib.hid hwd
  have HV := Lib.hid hv
  have HK := Lib.hid hkq
  have HVV := Lib.hid hvv
  have HB := Lib.hid hb
  have HBP := Lib.hid hbp
  have HFA := Lib.hid hFA
  have HFB := Lib.hid hFB
  have I0 := Lib.hid i0
  have I1 := Lib.hid i1
  have I2 := Lib.hid i2
  have J0 := Lib.hid j0
  clear hwd hv hkq hvv hb hbp hFA hFB i0 i1 i2 j0 hp
  have HS := Lib.hid (((St.top W).alloc [.int .i64 x0, .int .i64 x1, .int .i64 x2] 23).alloc [.int .i64 y0, .int .i64 y1, .int .i64 y2] 23)
  have esz : (W.alloc (.cells #[.int .i64 x0, .int .i64 x1, .int .i64 x2] 23)).heap.size = W.heap.size + 1 := by unfold World.alloc; exact Array.size_push _
  simp only [List.toArray] at HS
  rw [esz] at HS
  clear esz
  go_enter Tryd.func3, Tryd.ntmps3
  go_wp2_with fail
  refine (awake_ok W HT.out _ _ HS.out).mono ?_
  rintro en w1 ⟨rfl, hS1⟩
  obtain ⟨c0, c1, c2⟩ := blk3 hS1.swap
  obtain ⟨d0, d1, d2⟩ := blk3 hS1
  have HS1 := Lib.hid hS1
  clear hS1 HS
  go_wp2_with fail
  refine (of_ok (top W) _ x0 x1 x2 aa kk wd _ HS1.out I0.out I1.out I2.out HWD.out HV.out HK.out).mono ?_
  rintro en w3 ⟨rfl, hS3⟩
  clear c0 c1 c2 d0 d1 d2
  obtain ⟨d0, d1, d2⟩ := blk3 hS3
  have HS3 := Lib.hid hS3
  clear hS3 d1 d2
  go_wp2_with fail
  go_quiet (exact Calls.quiet_of (pick_q y0 p bb _ J0.out hp0 (by omega) HB.out))
  have HS4 := Lib.hid (HS3.out.drewN nq)
  clear HS3 HS1 d0
  go_wp2_with fail
  refine (form_ok (top W) _ aa kk wd FA _ HS4.out hkk hww.1 hww.2 HVV.out HFA.out).mono ?_
  rintro en w5 ⟨rfl, hS5⟩
  have HS5 := Lib.hid hS5
  clear hS5 HS4
  go_wp2_with fail
  refine (form_ok (top W) _ bb kk wd FB _ HS5.out hkk hww.1 hww.2 HBP.out HFB.out).mono ?_
  rintro en w6 ⟨rfl, hS6⟩
  have HS6 := Lib.hid hS6
  clear hS6 HS5
  by_cases hab : aa = bb
  · subst hab
    obtain rfl : FA = FB := HFA.out.symm.trans HFB.out
    have ts : ((strB (chars FA)).toList == (strB (chars FA)).toList) = true := beq_self_eq_true _
    go_wp2_with fail
    go_ret
    exact ⟨rfl, HS6.out.below⟩
  · have ta : ((aa : Int) == bb) = false := by rw [beq_eq_false_iff_ne]; omega
    have ta' : (aa == bb) = false := by rw [beq_eq_false_iff_ne]; omega
    have hmono : aa ≤ bb → bb / 2 ^ kk < 24 → FA.length ≤ FB.length := by
      intro h1 h2
      rw [← HFA.out, ← HFB.out]
      exact len_mono h1 h2
    have hcmp : ∀ n, (n = FA.length ∧ n ≤ FB.length ∨ n = FB.length ∧ n ≤ FA.length) → (((strB (chars FA)).extract 0 n).toList == ((strB (chars FB)).extract 0 n).toList) = false := fun n hn => no_prefix HVV.out HBP.out HFA.out HFB.out hab hn
    have hsa := strB_size (chars FA)
    have hsb := strB_size (chars FB)
    rw [chars_length] at hsa hsb
    have hdiv : ((bb : Int) / 2 ^ kk) = ((bb / 2 ^ kk : Nat) : Int) := by push_cast; rfl
    generalize bb / 2 ^ kk = u at *
    generalize strB (chars FA) = sa at *
    generalize strB (chars FB) = sb at *
    generalize FA.length = la at *
    generalize FB.length = lb at *
    have HM := Lib.hid hmono
    have HC := Lib.hid hcmp
    clear hmono hcmp
    by_cases hll : lb < la
    · have hcc := HC.out lb (.inr ⟨rfl, by omega⟩)
      go_wp2_with fail
      go_quiet (fail)
      go_wp2_with fail
      all_goals go_ret
      all_goals refine ⟨?_, (HS6.out.drewN nq).below⟩
      all_goals first | rfl | (have := HM.out (by omega) (by omega); omega)
    · have hcc := HC.out la (.inl ⟨rfl, by omega⟩)
      go_wp2_with fail
      go_quiet (fail)
      go_wp2_with fail
      all_goals go_ret
      all_goals refine ⟨?_, (HS6.out.drewN nq).below⟩
      all_goals first | rfl | (simp; omega)

end Go.Proofs.YtakmkjdmonmilaaDoor
