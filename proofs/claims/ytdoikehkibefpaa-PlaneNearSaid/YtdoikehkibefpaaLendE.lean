import Derived.Test.YtdoikehkibefpaaLendD
import Derived.Test.YtdoikehkibefpaaRgK
import Derived.Test.YtdoikehkibefpaaMat2
import Derived.Test.YtdoikehkibefpaaWLast
import Derived.Test.YtdoikehkibefpaaWTab
/-! turn -/
namespace Go.Proofs.Ytdoikehkibefpaa
set_option linter.unusedSimpArgs false
set_option linter.unusedVariables false
open Go Go.RowKit Go.Proofs.YtdoikehkibefpaaW.PrintWords Go.Proofs.YtdoikehkibefpaaW.PrintLast

section
variable {c : Ctx} {R : List HP} {w : World} {va : Value} {gL : Nat} {gs : List Nat} {ls : List (List Int)}
theorem lentHead (h : St c (lentIs va gL gs ls :: R) w) (hg : gs.length = ls.length) (k : Nat) (hk : k < ls.length) : w.cell? ⟨gL, k, none⟩ = some (headV (gs.getD k 0) (ls.getD k [])) := by
  obtain ⟨_, _, _, _, _, h1, _⟩ := lentFacts h hg k hk
  exact h1
end

set_option maxHeartbeats 8000000 in
set_option maxRecDepth 100000 in
theorem turn_ok (c : Ctx) (R : List HP) (w : World) (va : Value) (gL : Nat) (gs : List Nat) (ls : List (List Int)) (x0 x1 x2 : Int) (x3 : Bool) (hS : St c (lentIs va gL gs ls :: R) w) (hg : gs.length = ls.length)
    (hn2 : ls.length * 24 ≤ 140737488351232) (hl : ∀ x ∈ ls, x.length * 2 ≤ 140737488351232) :
    Calls Try.prog 32 #[.agg #[.int .i64 x0, .int .i64 x1, .int .i64 x2, .bool x3, .slice (some ⟨gL, 0, none⟩) ls.length (ls.length + 2), va, .slice (some ⟨gL, 0, none⟩) (ls.length + 2) (ls.length + 2)]] w
      fun e w' => ∃ v, e = .returned (.agg #[.int .i64 x0, .int .i64 x1, .int .i64 x2, .bool x3, v]) ∧ St c (mat 53 72 .u16 v (ls.map turnRow) :: lentIs va gL gs (ls.map turnRow) :: R) w' := by
  obtain ⟨aoA, capA, rfl, -, -, -, -⟩ := hS.lentOpen.rowShape
  have HS := Lib.hid ((((hS.alloc' rfl [.int .i64 x0, .int .i64 x1, .int .i64 x2, .bool x3, .slice (some ⟨gL, 0, none⟩) ls.length (ls.length + 2), .slice aoA ls.length capA, .slice (some ⟨gL, 0, none⟩) (ls.length + 2) (ls.length + 2)] 46).alloc' (n := w.heap.size + 1) (by simp) [.int .i64 0, .int .i64 0, .int .i64 0, .bool false, .slice none 0 0] 39).alloc' (n := w.heap.size + 2) (by simp) [.int .i64 x0, .int .i64 x1, .int .i64 x2, .bool x3, .slice none 0 0] 39).matNil 53 72 .u16)
  have HL := Lib.hid hl
  clear hS hl
  go_enter Try.func32, Try.ntmps32
  go_wp2_with fail
  go_loopw [4] (fun v w' => ∃ (i : Nat) (vf : Value), v = .int .i64 (i : Nat) ∧ i ≤ ls.length ∧ Hid (St c (blk (w.heap.size + 2) [.int .i64 x0, .int .i64 x1, .int .i64 x2, .bool x3, vf] 39 :: lentIs (.slice aoA ls.length capA) gL gs (T ls i 0) :: mat 53 72 .u16 vf ((ls.map turnRow).take i) :: blk w.heap.size [.int .i64 x0, .int .i64 x1, .int .i64 x2, .bool x3, .slice (some ⟨gL, 0, none⟩) ls.length (ls.length + 2), .slice aoA ls.length capA, .slice (some ⟨gL, 0, none⟩) (ls.length + 2) (ls.length + 2)] 46 :: blk (w.heap.size + 1) [.int .i64 0, .int .i64 0, .int .i64 0, .bool false, .slice none 0 0] 39 :: R) w')) (fun v _ => ls.length - (intOf v).toNat)
  case atStart => exact ⟨0, _, rfl, by omega, by rw [T_zero]; exact HS.out.rot5.rot3.rot5.back4⟩
  case round =>
    obtain ⟨i, vf, rfl, hi, hS⟩ := hrel
    obtain ⟨aoF, capF, rfl⟩ : ∃ ao cap, vf = .slice ao i cap := by
      obtain ⟨vs, hvs, h⟩ := hS.out.rot3.matOpen
      obtain ⟨ao, cap, e, -⟩ := h.rowShape
      exact ⟨ao, cap, by rw [e, List.length_take, List.length_map, Nat.min_eq_left hi]⟩
    have b4 : wr.cell? ⟨w.heap.size, 4, none⟩ = some (.slice (some ⟨gL, 0, none⟩) ls.length (ls.length + 2)) := St.cells_mem hS.out mm3 4
    by_cases hil : i < ls.length
    · have hrl := HL.out (ls.getD i []) (getD_memL _ _ _ hil)
      obtain ⟨len, hlen⟩ : ∃ q, (ls.getD i []).length = q := ⟨_, rfl⟩
      obtain ⟨gi, hgi⟩ : ∃ q, gs.getD i 0 = q := ⟨_, rfl⟩
      rw [hlen] at hrl
      have HLEN := Lib.hid hlen
      have HGI := Lib.hid hgi
      have HS1 := Lib.hid hS.out.swap
      have t1 : (0 : Int) ≤ (i : Int) := by omega
      have t2 : (i : Int) < ls.length := by omega
      clear hlen hgi hS HS
      go_wp2_with fail
      clear b4
      go_loopw [5] (fun v w' => ∃ (k : Nat), v = .int .i64 (k : Nat) ∧ k ≤ len ∧ Hid (St c (lentIs (.slice aoA ls.length capA) gL gs (T ls i k) :: blk (w.heap.size + 2) [.int .i64 x0, .int .i64 x1, .int .i64 x2, .bool x3, .slice aoF i capF] 39 :: mat 53 72 .u16 (.slice aoF i capF) ((ls.map turnRow).take i) :: blk w.heap.size [.int .i64 x0, .int .i64 x1, .int .i64 x2, .bool x3, .slice (some ⟨gL, 0, none⟩) ls.length (ls.length + 2), .slice aoA ls.length capA, .slice (some ⟨gL, 0, none⟩) (ls.length + 2) (ls.length + 2)] 46 :: blk (w.heap.size + 1) [.int .i64 0, .int .i64 0, .int .i64 0, .bool false, .slice none 0 0] 39 :: R) w')) (fun v _ => len - (intOf v).toNat)
      case atStart => exact ⟨0, rfl, by omega, HS1⟩
      case round =>
        obtain ⟨k, rfl, hk, hS⟩ := hrel
        have b4 : wr.cell? ⟨w.heap.size, 4, none⟩ = some (.slice (some ⟨gL, 0, none⟩) ls.length (ls.length + 2)) := St.cells_mem hS.out mm3 4
        have hgT : gs.length = (T ls i k).length := by rw [T_length]; exact hg
        have hiT : i < (T ls i k).length := by rw [T_length]; exact hil
        have hhd := lentHead hS.out hgT i hiT
        have hlT : ((T ls i k).getD i []).length = len := by rw [T_lens]; exact HLEN.out
        unfold headV at hhd
        rw [hlT, HGI.out] at hhd
        by_cases hkl : k < len
        · have hset := lentSet hS.out hgT i k hiT (by omega)
          rw [T_getD ls i k hil, turnTo_at _ _ (by rw [HLEN.out]; exact hkl), HGI.out] at hset
          obtain ⟨⟨hcv, hcf⟩, hst⟩ := hset
          have hnew := hst (turnV ((ls.getD i []).getD k 0) k)
          rw [T_set ls i k hil (by rw [HLEN.out]; exact hkl)] at hnew
          have HN := Lib.hid hnew
          obtain ⟨sv, hsv⟩ : ∃ q, (ls.getD i []).getD k 0 = q := ⟨_, rfl⟩
          rw [hsv] at hcv HN
          obtain ⟨m5, hm5⟩ : ∃ q, k % 5 = q := ⟨_, rfl⟩
          have hm5' : m5 < 5 := by omega
          have hmi : (k : Int) % 5 = (m5 : Int) := by omega
          have HTV : Hid (bits .xor .u16 sv (1 + (m5 : Int)) = turnV sv k) := by show _ = _; unfold turnV; rw [hm5]
          have t3 : (0 : Int) ≤ (k : Int) := by omega
          have t4 : (k : Int) < len := by omega
          clear hst hnew hS hsv hm5 hgT hiT hlT
          go_wp2_with fail
          go_region
          rw [HTV.out]
          go_wp2_with fail
          go_roundw
          case rel => exact ⟨k + 1, by go_num, by omega, HN.out.drewN 1⟩
          case measure => simp [intOf]; omega
        · have hkl : k = len := by omega
          subst hkl
          have hkl2 := hk
          obtain ⟨ROW, hROW⟩ : ∃ q, (T ls i k).getD i [] = q := ⟨_, rfl⟩
          have hROW2 : turnRow (ls.getD i []) = ROW := by rw [← hROW, T_getD ls i k hil, ← HLEN.out]; rfl
          have hRL : ROW.length = k := by rw [← hROW]; exact hlT
          have HHD : Hid (∀ (R' : List HP) (w' : World), St c (lentIs (.slice aoA ls.length capA) gL gs (T ls i k) :: R') w' → w'.cell? ⟨gL, i, none⟩ = some (.slice (some ⟨gi, 0, none⟩) k (k + 7))) := by
            intro R' w' h
            have h2 := lentHead h hgT i hiT
            unfold headV at h2
            rw [hlT, HGI.out] at h2
            exact h2
          have HCE : Hid (∀ (R' : List HP) (w' : World), St c (lentIs (.slice aoA ls.length capA) gL gs (T ls i k) :: R') w' → ∀ j u, (nums .u16 ROW)[j]? = some u → w'.cell? ((⟨gi, 0, none⟩ : Addr).add j) = some u) := by
            intro R' w' h j u hj
            have hjl : j < ROW.length := by have := (List.getElem?_eq_some_iff.1 hj).1; rwa [nums_length] at this
            have h2 := (lentSet h hgT i j hiT (by rw [hROW]; exact hjl)).1.1
            rw [hROW, HGI.out] at h2
            rw [nums_at _ _ _ hjl] at hj
            rw [Addr.add_lit, Nat.zero_add, h2, ← hj]
          have HD := Lib.hid hS.out.drew
          have HROW := Lib.hid hROW2
          have HRL := Lib.hid hRL
          have hf4 : wr.cell? ⟨w.heap.size + 2, 4, none⟩ = some (.slice aoF i capF) := St.cells_mem hS.out mm1 4
          clear hROW hROW2 hRL hgT hiT hlT hS
          go_wp2_with fail
          refine start_ (n := 14) (S := fun w' => w'.cell? ⟨w.heap.size + 2, 4, none⟩ = some (.slice aoF i capF) ∧ w'.cell? ⟨w.heap.size, 4, none⟩ = some (.slice (some ⟨gL, 0, none⟩) ls.length (ls.length + 2)) ∧ w'.cell? ⟨gL, i, none⟩ = some (.slice (some ⟨gi, 0, none⟩) k (k + 7))) (ds := [11, 12, 13]) #[false, false, false, false, false, false, false, false, false, false, false, false, false, false] (by kernel_rfl) rfl rfl ⟨St.cells_mem HD.out mm1 4, St.cells_mem HD.out mm3 4, HHD.out _ _ HD.out⟩ (fun hHeld => ?_)
          refine pu 0 51 #[true, false, false, false, false, false, false, false, false, false, false, false, false, false] ?_
          refine pu 3 54 #[true, false, false, true, false, false, false, false, false, false, false, false, false, false] ?_
          refine pu 4 55 #[true, false, false, true, true, false, false, false, false, false, false, false, false, false] ?_
          refine pu 6 57 #[true, false, false, true, true, false, true, false, false, false, false, false, false, false] ?_
          refine ta 1 52 #[true, true, false, true, true, false, true, false, false, false, false, false, false, false] hHeld ?_
          refine ta 5 56 #[true, true, false, true, true, true, true, false, false, false, false, false, false, false] hHeld ?_
          refine pu 7 58 #[true, true, false, true, true, true, true, true, false, false, false, false, false, false] ?_
          refine ta 8 59 #[true, true, false, true, true, true, true, true, true, false, false, false, false, false] hHeld ?_
          refine one_ (i := 2) (N := some 53) #[true, true, true, true, true, true, true, true, true, false, false, false, false, false] rfl rfl (by kernel_rfl) (by decide) (fun K hK => ?_)
          refine value_ (w1 := ?_) (v := ?_) (by rfl) rfl ?_ ?_
          rotate_left 2
          · go_simp
            constructor
            · rfl
            · rfl
          have HE := Lib.hid (HD.out.emptyRow 72)
          refine hK.out _ _ ⟨St.cells_mem HE.out mm2 4, St.cells_mem HE.out mm4 4, HHD.out _ _ HE.out.swap⟩ (fun hHeld => ?_)
          clear hK K
          refine norm_ (a' := ?_) ?_ ?_
          rotate_left
          · show Act.put _ (some 53) _ = _
            simp only [Act.put, List.setIfInBounds_toArray, List.set_cons_zero, List.set_cons_succ, i64_w, i32_w]
            rfl
          refine one_ (i := 9) (N := some 60) #[true, true, true, true, true, true, true, true, true, true, false, false, false, false] rfl rfl (by kernel_rfl) (by decide) (fun K hK => ?_)
          refine St.stepAppend (by rfl) (.tmp 53) (.tmp 59) _ (by rfl) elemU16 (by rfl) HE.out ⟨gi, 0, none⟩ k (k + 7) (nums .u16 ROW) (by rfl) (by rw [nums_length, HRL.out, Nat.mul_one]) (HCE.out _ _ HE.out.swap) (nums_one .u16 ROW) (by omega) (by unfold maxLen; omega) ?_
          intro v60 w60 hS60
          rw [Nat.zero_add, List.nil_append] at hS60
          obtain ⟨ao60, cap60, rfl, -, -, -, -⟩ := hS60.rowShape
          have HF := Lib.hid hS60
          clear hS60
          refine hK.out _ _ ⟨St.cells_mem HF.out mm2 4, St.cells_mem HF.out mm4 4, HHD.out _ _ HF.out.swap⟩ (fun hHeld => ?_)
          clear hK K
          refine norm_ (a' := ?_) ?_ ?_
          rotate_left
          · show Act.put _ (some 60) _ = _
            simp only [Act.put, List.setIfInBounds_toArray, List.set_cons_zero, List.set_cons_succ, i64_w, i32_w]
            rfl
          refine one_ (i := 10) (N := some 61) #[true, true, true, true, true, true, true, true, true, true, true, false, false, false] rfl rfl (by kernel_rfl) (by decide) (fun K hK => ?_)
          refine value_ (w1 := ?_) (v := ?_) (by rfl) rfl ?_ ?_
          rotate_left 2
          · go_simp
            constructor
            · rfl
            · rfl
          have HG := Lib.hid (HF.out.alloc' rfl [.slice ao60 k cap60] 53)
          refine hK.out _ _ ⟨St.cells_mem HG.out mm3 4, St.cells_mem HG.out mm5 4, HHD.out _ _ HG.out.rot3⟩ (fun hHeld => ?_)
          clear hK K
          refine norm_ (a' := ?_) ?_ ?_
          rotate_left
          · show Act.put _ (some 61) _ = _
            simp only [Act.put, List.setIfInBounds_toArray, List.set_cons_zero, List.set_cons_succ, i64_w, i32_w]
            rfl
          refine last_ (i := 11) (N := some 62) #[true, true, true, true, true, true, true, true, true, true, true, true, false, false] rfl rfl (by kernel_rfl) (by decide) (fun K hK => ?_)
          have hG2 := HG.out.rot5.matOpen
          obtain ⟨vs, hvs, hG3⟩ := hG2
          rw [show ((ls.map turnRow).take i).length = i by rw [List.length_take, List.length_map]; omega] at hG3
          have hblk : (w60.alloc (.cells #[.slice ao60 k cap60] 53)).cell? ⟨w60.heap.size, 0, none⟩ = some (.slice ao60 k cap60) := St.cells_mem HG.out mm0 0
          refine St.stepAppend (by rfl) (.tmp 52) (.tmp 61) _ (by rfl) elemRow (by rfl) hG3 ⟨w60.heap.size, 0, none⟩ 1 1 [.slice ao60 k cap60] (by rfl) rfl (fun j u hj => by match j, hj with | 0, hj => (simp at hj; subst hj; exact hblk)) (fun u hu => by simp at hu; subst hu; rfl) (by omega) (by unfold maxLen; omega) ?_
          intro v62 w62 hS62
          obtain ⟨ao62, cap62, rfl, -, -, -, -⟩ := hS62.rowShape
          have hb4 : w62.cell? ⟨w.heap.size + 2, 4, none⟩ = some (.slice aoF i capF) := St.cells_mem hS62 mm5 4
          have hbb := St.blk_mem (g := w.heap.size + 2) hS62 mm5
          have hbz : w62.frozen? ⟨w.heap.size + 2, 4, none⟩ = false := by simp [World.frozen?, hbb]
          have hin : row 72 1 (.slice ao60 k cap60) k (nums .u16 ROW) = inner 72 .u16 (.slice ao60 k cap60) ROW := by unfold inner; rw [HRL.out]
          have h61 := hS62.rot4.swap
          rw [hin] at h61
          have h62 := (h61.matSnoc (n := i + 1) hvs (by rw [List.length_take, List.length_map, Nat.min_eq_left hi])).swap.drop.rot3
          have h63 : St c (blk (w.heap.size + 2) [.int .i64 x0, .int .i64 x1, .int .i64 x2, .bool x3, .slice ao62 (i + 1) cap62] 39 :: _) _ := h62.setCell 4 (.slice ao62 (i + 1) cap62)
          have h64 := h63.rot3.swap
          rw [← HROW.out, T_take ls i hil, ← HLEN.out, T_next ls i hil] at h64
          have HZ := Lib.hid h64
          clear hbb hS62 hG3 h61 h62 h63 h64 hin
          refine hK.out _ _ ?_
          clear hK K
          refine norm_ (a' := ?_) ?_ ?_
          rotate_left
          · show Act.put _ (some 62) _ = _
            simp only [Act.put, List.setIfInBounds_toArray, List.set_cons_zero, List.set_cons_succ, i64_w, i32_w]
            rfl
          refine pu 12 63 #[true, true, true, true, true, true, true, true, true, true, true, true, true, false] ?_
          refine last_ (i := 13) (N := none) #[true, true, true, true, true, true, true, true, true, true, true, true, true, true] rfl rfl (by kernel_rfl) (by decide) (fun K hK => ?_)
          refine skip_ (w1 := ?_) (by rfl) rfl ?_ ?_
          rotate_left
          · go_simp
            rfl
          refine hK.out _ _ ?_
          clear hK K
          refine done_ (by kernel_rfl) ?_
          go_wp2_with fail
          go_roundw
          case rel => exact ⟨i + 1, _, by go_num, by omega, HZ.out⟩
          case measure => simp [intOf]; omega
    · have hil : i = ls.length := by omega
      subst hil
      rw [T_all, List.take_of_length_le (by rw [List.length_map]; exact Nat.le_refl _)] at hS
      have c0 : wr.cell? ⟨w.heap.size + 2, 0, none⟩ = some (.int .i64 x0) := St.cells_mem hS.out mm0 0
      have c1 : wr.cell? ⟨w.heap.size + 2, 1, none⟩ = some (.int .i64 x1) := St.cells_mem hS.out mm0 1
      have c2 : wr.cell? ⟨w.heap.size + 2, 2, none⟩ = some (.int .i64 x2) := St.cells_mem hS.out mm0 2
      have c3 : wr.cell? ⟨w.heap.size + 2, 3, none⟩ = some (.bool x3) := St.cells_mem hS.out mm0 3
      have c4 : wr.cell? ⟨w.heap.size + 2, 4, none⟩ = some (.slice aoF ls.length capF) := St.cells_mem hS.out mm0 4
      have hr := hS.out.blk_mem (g := w.heap.size + 1) mm4
      have d0 : wr.cell? ⟨w.heap.size + 1, 0, none⟩ = some (.int .i64 0) := St.cells_mem hS.out mm4 0
      have d1 : wr.cell? ⟨w.heap.size + 1, 1, none⟩ = some (.int .i64 0) := St.cells_mem hS.out mm4 1
      have d2 : wr.cell? ⟨w.heap.size + 1, 2, none⟩ = some (.int .i64 0) := St.cells_mem hS.out mm4 2
      have d3 : wr.cell? ⟨w.heap.size + 1, 3, none⟩ = some (.bool false) := St.cells_mem hS.out mm4 3
      have d4 : wr.cell? ⟨w.heap.size + 1, 4, none⟩ = some (.slice none 0 0) := St.cells_mem hS.out mm4 4
      have fr : ∀ j, wr.frozen? ⟨w.heap.size + 1, j, none⟩ = false := fun j => by simp [World.frozen?, hr]
      have fr0 := fr 0
      have fr1 := fr 1
      have fr2 := fr 2
      have fr3 := fr 3
      have fr4 := fr 4
      have HSX := hS
      clear fr hr hS
      go_wp2_with fail
      have h3 := (((((HSX.out.rot5).setCell 0 (.int .i64 x0)).setCell 1 (.int .i64 x1)).setCell 2 (.int .i64 x2)).setCell 3 (.bool x3)).setCell 4 (.slice aoF ls.length capF)
      have h4 := h3.blk_at
      exact bodyPost_ret (results_cell_row rfl _ _ (w.heap.size + 1) 39 #[.int .i64 x0, .int .i64 x1, .int .i64 x2, .bool x3, .slice aoF ls.length capF] (0, 0) _ rfl h4 Try.underlying39 rfl (by kernel_rfl)) rfl ⟨_, rfl, (h3.drop.drop.rot3.drop).swap⟩

end Go.Proofs.Ytdoikehkibefpaa
