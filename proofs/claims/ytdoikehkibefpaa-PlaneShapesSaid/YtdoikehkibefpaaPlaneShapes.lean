import Derived.Test.YtdoikehkibefpaaPPbx10
import Derived.Test.YtdoikehkibefpaaPPbx11
import Derived.Test.YtdoikehkibefpaaPPbx12
import Derived.Test.YtdoikehkibefpaaPPbx2
import Derived.Test.YtdoikehkibefpaaPPbx4
import Derived.Test.YtdoikehkibefpaaPPbx6
import Derived.Test.YtdoikehkibefpaaPPbx8
import Derived.Test.YtdoikehkibefpaaPPbx9
import Derived.Test.YtdoikehkibefpaaPlaneEb
import Derived.Test.YtdoikehkibefpaaPlaneR
import Derived.Test.YtdoikehkibefpaaBookO
import Derived.Test.YtdoikehkibefpaaBookT
namespace Go.Proofs.Ytdoikehkibefpaa
set_option linter.unusedSimpArgs false
set_option linter.unusedVariables false
open Go Go.RowKit Go.WideShapes Go.Proofs.Ytdoikehkibefpaa.PPb Go.Proofs.YtdoikehkibefpaaW.PrintWords Go.Proofs.YtdoikehkibefpaaW.PrintMore

theorem new_facts {a b c : Int} {d : Bool} {q1 q2 q3 : Int} {q4 : Bool} {L : List (List Int)} {q6 : Int} (h : newF a b c d = (q1, q2, q3, q4, L, q6)) : L.length ≤ 4 ∧ ∀ l ∈ L, l.length ≤ 16777216 := by
  unfold newF at h
  rcases shp_cases a b c d with ⟨hok, e⟩ | ⟨-, e⟩
  · rw [e, if_pos rfl] at h
    simp only [Prod.mk.injEq] at h
    obtain ⟨-, -, -, -, rfl, -⟩ := h
    refine ⟨by rw [zerosL_length]; have := plN_le d; omega, fun l hl => ?_⟩
    unfold zerosL at hl
    obtain ⟨i, hi, rfl⟩ := List.mem_map.1 hl
    rw [List.length_replicate]
    have hw := wd_bd (p := (i : Int)) hok.1.1 hok.1.2
    have hm := mul_bd (a := wd a i) (b := b) (m := 4096) (n := 4096) (by omega) hw.2 (by have := hok.2.1; omega) hok.2.1.2
    omega
  · rw [e, if_neg (by decide)] at h
    simp only [Prod.mk.injEq] at h
    obtain ⟨-, -, -, -, rfl, -⟩ := h
    exact ⟨Nat.zero_le _, fun l hl => by cases hl⟩

set_option maxHeartbeats 8000000 in
set_option maxRecDepth 100000 in
theorem planeShapes_walk {H : Type} {enc : TypeId × Value → H} (W : World) (base : Nat) (v0 v1 : Value) (a0 : Arg enc Try.prog W base 26 v0) (a1 : Arg enc Try.prog W base 3 v1) :
    Calls Try.prog 4 #[v0, v1] W fun e W' => e = .returned (.bool true) ∧ Below W.heap.size W W' := by
  obtain ⟨a, b, c, d, rfl, _⟩ := arg_shape a0
  obtain ⟨n, rfl, _⟩ := arg_int (k := .i64) Try.underlying3 a1
  clear a0 a1
  have HS := Lib.hid ((St.top W).alloc' rfl [.int .i64 a, .int .i64 b, .int .i64 c, .bool d] 26)
  obtain ⟨⟨s1, s2, s3⟩, hsz⟩ : ∃ r, sizeF a b c d n = r := ⟨_, rfl⟩
  obtain ⟨⟨m1, m2⟩, hsm⟩ : ∃ r, samplesF a b c d = r := ⟨_, rfl⟩
  obtain ⟨e, he⟩ : ∃ r, shp a b c d = r := ⟨_, rfl⟩
  obtain ⟨⟨q1, q2, q3, q4, L, q6⟩, hnw⟩ : ∃ r, newF a b c d = r := ⟨_, rfl⟩
  have A1 : Hid (plane_Shaped.f (0 + 5) a b c d = some e) := by show _ = _; rw [shaped_f, he]
  have B1 : Hid (dailiesref06_Shaped.f (0 + 6) a b c d = some e) := by show _ = _; rw [rshaped_f, he]
  have A2 : Hid (plane_Size.f (0 + 6) a b c d n = some (s1, s2, s3)) := by show _ = _; rw [size_all, hsz]
  have B2 : Hid (dailiesref06_Size.f (0 + 6) a b c d n = some (s1, s2, s3)) := by show _ = _; rw [rsize_all, hsz]
  have A3 : Hid (plane_Samples.f (0 + 6) a b c d = some (m1, m2)) := by show _ = _; rw [samples_f, hsm]
  have B3 : Hid (dailiesref06_Samples.f (0 + 6) a b c d = some (m1, m2)) := by show _ = _; rw [rsamples_f, hsm]
  have A4 : Hid (plane_New.f (0 + 6) a b c d = some (q1, q2, q3, q4, L, q6)) := by show _ = _; rw [new_f, hnw]
  have B4 : Hid (dailiesref06_New.f (0 + 6) a b c d = some (q1, q2, q3, q4, L, q6)) := by show _ = _; rw [rnew_f, hnw]
  obtain ⟨hL4, hLb⟩ := new_facts hnw
  obtain ⟨ks, hks⟩ := rsame_f q1 q2 q3 q4 L (by omega) (fun l hl => by have := hLb l hl; omega)
  have HKS := Lib.hid hks
  have HLB : Hid (∀ l ∈ L, l.length ≤ BIG) := fun l hl => Nat.le_trans (hLb l hl) (by decide)
  clear hsz hsm he hnw hLb hks
  go_enter Try.func4, Try.ntmps4
  go_wp2_with fail
  refine (dailieslaw06_shown.calls 40 true _ shown_f).mono ?_
  rintro en w1 ⟨rfl, hb⟩
  have HS1 := Lib.hid (HS.out.of_below hb)
  clear HS hb
  obtain ⟨f0, f1, f2, f3⟩ := HS1.out.cells4 mm0
  go_wp2_with fail
  refine (plane_Shaped.calls (0 + 5) a b c d e _ A1.out).mono ?_
  rintro en w2 ⟨rfl, hb⟩
  have HS2 := Lib.hid (HS1.out.of_below hb)
  clear HS1 hb f0 f1 f2 f3
  obtain ⟨f0, f1, f2, f3⟩ := HS2.out.cells4 mm0
  go_wp2_with fail
  refine (plane_Size.calls (0 + 6) a b c d n s1 s2 s3 _ A2.out).mono ?_
  rintro en w3 ⟨rfl, hb⟩
  have HS3 := Lib.hid (HS2.out.of_below hb)
  clear HS2 hb f0 f1 f2 f3
  obtain ⟨f0, f1, f2, f3⟩ := HS3.out.cells4 mm0
  go_wp2_with fail
  refine (dailiesref06_Size.calls (0 + 6) a b c d n s1 s2 s3 _ B2.out).mono ?_
  rintro en w4 ⟨rfl, hb⟩
  have HS4 := Lib.hid (HS3.out.of_below hb)
  clear HS3 hb f0 f1 f2 f3
  obtain ⟨f0, f1, f2, f3⟩ := HS4.out.cells4 mm0
  go_wp2_with fail
  refine (plane_Samples.calls (0 + 6) a b c d m1 m2 _ A3.out).mono ?_
  rintro en w5 ⟨rfl, hb⟩
  have HS5 := Lib.hid (HS4.out.of_below hb)
  clear HS4 hb f0 f1 f2 f3
  obtain ⟨f0, f1, f2, f3⟩ := HS5.out.cells4 mm0
  go_wp2_with fail
  refine (dailiesref06_Samples.calls (0 + 6) a b c d m1 m2 _ B3.out).mono ?_
  rintro en w6 ⟨rfl, hb⟩
  have HS6 := Lib.hid (HS5.out.of_below hb)
  clear HS5 hb f0 f1 f2 f3
  obtain ⟨f0, f1, f2, f3⟩ := HS6.out.cells4 mm0
  go_wp2_with fail
  refine (dailiesref06_Shaped.calls (0 + 6) a b c d e _ B1.out).mono ?_
  rintro en w7 ⟨rfl, hb⟩
  have HS7 := Lib.hid (HS6.out.of_below hb)
  clear HS6 hb f0 f1 f2 f3
  obtain ⟨f0, f1, f2, f3⟩ := HS7.out.cells4 mm0
  have t_e : (e != e) = false := by simp
  have t_s1 : (s1 != s1) = false := by simp
  have t_s2 : (s2 != s2) = false := by simp
  have t_s3 : (s3 != s3) = false := by simp
  have t_m1 : (m1 != m1) = false := by simp
  have t_m2 : (m2 != m2) = false := by simp
  go_wp2_with fail
  clear f0 f1 f2 f3 t_e t_s1 t_s2 t_s3 t_m1 t_m2
  have HB := Lib.hid (St.bookNew (HS7.out.alloc' rfl [.slice none 0 0, .int .i64 0, .slice none 0 0] 36))
  clear HS7
  generalize w7.heap.size = gB at *
  go_loopw [18] (fun v w' => ∃ (t n : Nat) (os : List Nat), v = .int .i64 (t : Nat) ∧ t ≤ 2 ∧ (t < 2 → n ≤ 100 * t ∧ os.length ≤ 2 * t ∧ ∀ x ∈ os, x ≤ 4 + 2 * t) ∧ Hid (St (top W) (book gB n os :: blk W.heap.size [.int .i64 a, .int .i64 b, .int .i64 c, .bool d] 26 :: []) w')) (fun v _ => 2 - (intOf v).toNat)
  case atStart => exact ⟨0, 0, [], rfl, by omega, fun _ => ⟨by omega, by simp, fun x hx => by cases hx⟩, HB⟩
  case round =>
    clear HB
    obtain ⟨t, n, os, rfl, ht, hbd, hS⟩ := hrel
    by_cases htl : t < 2
    · obtain ⟨hn1, hos, hox⟩ := hbd htl
      have HOX := Lib.hid hox
      have H0 := hS
      clear hS hbd hox
      obtain ⟨f0, f1, f2, f3⟩ := H0.out.cells4 mm1
      go_wp2_with fail
      refine (plane_New.calls (0 + 6) a b c d q1 q2 q3 q4 L q6 _ A4.out).mono ?_
      rintro en x1 ⟨v1, rfl, hS, hb⟩
      have h1 := H0.out.of_S hb hS
      obtain ⟨P1, n1, rfl, hn1', hC1⟩ := h1.matC
      have HN1 := Lib.hid hn1'
      have H1 := Lib.hid (h1.alloc [.int .i64 q1, .int .i64 q2, .int .i64 q3, .bool q4, .slice P1 L.length n1] 39)
      have C1 := Lib.hid (Kd.C_alloc hC1 (.cells #[.int .i64 q1, .int .i64 q2, .int .i64 q3, .bool q4, .slice P1 L.length n1] 39))
      clear H0 hS hb h1 hn1' hC1 f0 f1 f2 f3
      obtain ⟨f0, f1, f2, f3⟩ := H1.out.cells4 mm3
      go_wp2_with fail
      refine (plane_New.calls (0 + 6) a b c d q1 q2 q3 q4 L q6 _ A4.out).mono ?_
      rintro en x2 ⟨v2, rfl, hS, hb⟩
      have h1 := H1.out.of_S hb hS
      obtain ⟨P2, n2, rfl, hn2', hC2⟩ := h1.matC
      have HN2 := Lib.hid hn2'
      have H2 := Lib.hid (h1.alloc [.int .i64 q1, .int .i64 q2, .int .i64 q3, .bool q4, .slice P2 L.length n2] 39)
      have D1 := Lib.hid (Kd.C_alloc (Kd.C_below C1.out hb) (.cells #[.int .i64 q1, .int .i64 q2, .int .i64 q3, .bool q4, .slice P2 L.length n2] 39))
      have C2 := Lib.hid (Kd.C_alloc hC2 (.cells #[.int .i64 q1, .int .i64 q2, .int .i64 q3, .bool q4, .slice P2 L.length n2] 39))
      clear H1 C1 hS hb h1 hn2' hC2 f0 f1 f2 f3
      obtain ⟨f0, f1, f2, f3⟩ := H2.out.cells4 mm5
      go_wp2_with fail
      refine (dailiesref06_New.calls (0 + 6) a b c d q1 q2 q3 q4 L q6 _ B4.out).mono ?_
      rintro en x3 ⟨v3, rfl, hS, hb⟩
      have h1 := H2.out.of_S hb hS
      obtain ⟨P3, n3, rfl, hn3', hC3⟩ := h1.matC
      have HN3 := Lib.hid hn3'
      have H3 := Lib.hid (h1.drop.alloc [.int .i64 q1, .int .i64 q2, .int .i64 q3, .bool q4, .slice P3 L.length n3] 39)
      have E1 := Lib.hid (Kd.C_alloc (Kd.C_below D1.out hb) (.cells #[.int .i64 q1, .int .i64 q2, .int .i64 q3, .bool q4, .slice P3 L.length n3] 39))
      have E2 := Lib.hid (Kd.C_alloc (Kd.C_below C2.out hb) (.cells #[.int .i64 q1, .int .i64 q2, .int .i64 q3, .bool q4, .slice P3 L.length n3] 39))
      have C3 := Lib.hid (Kd.C_alloc hC3 (.cells #[.int .i64 q1, .int .i64 q2, .int .i64 q3, .bool q4, .slice P3 L.length n3] 39))
      clear H2 D1 C2 hS hb h1 hn3' hC3 f0 f1 f2 f3
      obtain ⟨f0, f1, f2, f3, f4⟩ := H3.out.cells5 mm3
      obtain ⟨g0, g1, g2, g3, g4⟩ := H3.out.cells5 mm0
      go_wp2_with fail
      refine (dailiesref06_Same.calls ks q1 q2 q3 q4 P1 n1 L q1 q2 q3 q4 P3 n3 L true _ E1.out HN1.out C3.out HN3.out HKS.out).mono ?_
      rintro en x4 ⟨rfl, hb⟩
      have H4 := Lib.hid (H3.out.of_below hb)
      have E2b := Lib.hid (Kd.C_below E2.out hb)
      have C3b := Lib.hid (Kd.C_below C3.out hb)
      clear H3 E1 E2 C3 hb f0 f1 f2 f3 f4 g0 g1 g2 g3 g4
      obtain ⟨f0, f1, f2, f3, f4⟩ := H4.out.cells5 mm1
      obtain ⟨g0, g1, g2, g3, g4⟩ := H4.out.cells5 mm0
      go_wp2_with fail
      refine (dailiesref06_Same.calls ks q1 q2 q3 q4 P2 n2 L q1 q2 q3 q4 P3 n3 L true _ E2b.out HN2.out C3b.out HN3.out HKS.out).mono ?_
      rintro en x5 ⟨rfl, hb⟩
      have H5 := Lib.hid (H4.out.of_below hb)
      clear H4 E2b C3b hb f0 f1 f2 f3 f4 g0 g1 g2 g3 g4
      have t_q : (q6 != q6) = false := by simp
      obtain ⟨f0, f1, f2, f3, f4⟩ := H5.out.cells5 mm3
      clear f0 f1 f2 f3
      go_wp2_with fail
      clear f4 t_q
      refine (take_ok (top W) [blk x3.heap.size [.int .i64 q1, .int .i64 q2, .int .i64 q3, .bool q4, .slice P3 L.length n3] 39, blk x2.heap.size [.int .i64 q1, .int .i64 q2, .int .i64 q3, .bool q4, .slice P2 L.length n2] 39, mat 53 72 .u16 (.slice P2 L.length n2) L, blk x1.heap.size [.int .i64 q1, .int .i64 q2, .int .i64 q3, .bool q4, .slice P1 L.length n1] 39, blk W.heap.size [.int .i64 a, .int .i64 b, .int .i64 c, .bool d] 26] _ gB n os _ L (H5.out.reo 7 [5, 4, 0, 1, 2, 3, 6] (by decide)) HLB.out (by omega)).mono ?_
      rintro en x6 ⟨rfl, hS⟩
      have H6 := Lib.hid hS
      clear H5 hS
      obtain ⟨f0, f1, f2, f3, f4⟩ := H6.out.cells5 mm2
      clear f0 f1 f2 f3
      go_wp2_with fail
      clear f4
      refine (take_ok (top W) [blk x3.heap.size [.int .i64 q1, .int .i64 q2, .int .i64 q3, .bool q4, .slice P3 L.length n3] 39, blk x2.heap.size [.int .i64 q1, .int .i64 q2, .int .i64 q3, .bool q4, .slice P2 L.length n2] 39, blk x1.heap.size [.int .i64 q1, .int .i64 q2, .int .i64 q3, .bool q4, .slice P1 L.length n1] 39, blk W.heap.size [.int .i64 a, .int .i64 b, .int .i64 c, .bool d] 26] _ gB n _ _ L (H6.out.reo 6 [0, 3, 1, 2, 4, 5] (by decide)) HLB.out (by simp; omega)).mono ?_
      rintro en x7 ⟨rfl, hS⟩
      have H7 := Lib.hid hS
      clear H6 hS
      go_wp2_with fail
      refine (own_ok (top W) [blk x3.heap.size [.int .i64 q1, .int .i64 q2, .int .i64 q3, .bool q4, .slice P3 L.length n3] 39, blk x2.heap.size [.int .i64 q1, .int .i64 q2, .int .i64 q3, .bool q4, .slice P2 L.length n2] 39, blk x1.heap.size [.int .i64 q1, .int .i64 q2, .int .i64 q3, .bool q4, .slice P1 L.length n1] 39, blk W.heap.size [.int .i64 a, .int .i64 b, .int .i64 c, .bool d] 26] _ gB n _ H7.out (by omega) (by simp; omega) (fun x hx => by
        simp only [List.append_assoc, List.mem_append, List.mem_cons, List.not_mem_nil, or_false] at hx
        rcases hx with hx | hx | hx
        · have := HOX.out x hx; omega
        · omega
        · omega)).mono ?_
      rintro en x8 ⟨rfl, hS⟩
      have H8 := Lib.hid (hS.reo 5 [0, 4, 1, 2, 3] (by decide))
      have hl : ((os ++ [L.length] ++ [L.length]).map (· + 2)).length = os.length + 2 := by simp
      have hl2 : (os ++ [L.length] ++ [L.length]).length = os.length + 2 := by simp
      have H9 : Hid (St (top W) (book gB _ _ :: blk W.heap.size [.int .i64 a, .int .i64 b, .int .i64 c, .bool d] 26 :: []) x8) := (((H8.out.rot5.drop).rot4.drop).rot3.drop)
      clear H7 hS
      go_wp2_with fail
      go_roundw
      case rel =>
        refine ⟨t + 1, 2 * n + 40 * (os ++ [L.length] ++ [L.length]).length, (os ++ [L.length] ++ [L.length]).map (· + 2), by go_num, by omega, fun h2 => ⟨by omega, by omega, fun x hx => ?_⟩, H9⟩
        obtain ⟨y, hy, rfl⟩ := List.mem_map.1 hx
        simp only [List.append_assoc, List.mem_append, List.mem_cons, List.not_mem_nil, or_false] at hy
        rcases hy with hy | hy | hy
        · have := HOX.out y hy; omega
        · omega
        · omega
      case measure => simp [intOf]; omega
    · go_wp2_with fail
      go_ret
      exact ⟨rfl, hS.out.below⟩

end Go.Proofs.Ytdoikehkibefpaa
