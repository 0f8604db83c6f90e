import Derived.Test.YtdoikehkibefpaaLendA
/-! lend -/
namespace Go.Proofs.Ytdoikehkibefpaa
set_option linter.unusedSimpArgs false
set_option linter.unusedVariables false
open Go Go.RowKit Go.Proofs.YtdoikehkibefpaaW.PrintWords

theorem getD_memL {α : Type} (z : α) (l : List α) (i : Nat) (hi : i < l.length) : l.getD i z ∈ l := by
  rw [List.getD_eq_getElem?_getD, List.getElem?_eq_getElem hi]; exact List.getElem_mem hi
theorem zip_at {α β γ : Type} (f : α → β → γ) (xs : List α) (bs : List β) (i : Nat) (a0 : α) (b0 : β) (h1 : i < xs.length) (h2 : i < bs.length) : (List.zipWith f xs bs)[i]? = some (f (xs.getD i a0) (bs.getD i b0)) := by
  rw [List.getElem?_zipWith, List.getElem?_eq_getElem h1, List.getElem?_eq_getElem h2]
  simp [List.getD_eq_getElem?_getD, List.getElem?_eq_getElem h1, List.getElem?_eq_getElem h2]
/-- x: what lend is at, behind k lists. -/
def lendX (x : Nat) (a b c : Int) (d : Bool) (u va vl : Value) : HP := blk x [.int .i64 a, .int .i64 b, .int .i64 c, .bool d, u, va, vl] 46

theorem heads_set (gs : List Nat) (l : List (List Int)) (k m : Nat) (hg : gs.length = l.length) (hk : k < l.length) (hm : l.length - k < m) :
    (List.zipWith headV (gs.take k) (l.take k) ++ List.replicate m (Value.slice none 0 0)).set k (headV (gs.getD k 0) (l.getD k [])) = List.zipWith headV (gs.take (k + 1)) (l.take (k + 1)) ++ List.replicate (m - 1) (Value.slice none 0 0) := by
  have h1 : (List.zipWith headV (gs.take k) (l.take k)).length = k := by rw [List.length_zipWith, List.length_take, List.length_take]; omega
  rw [take_snoc gs k 0 (by omega), take_snoc l k [] hk, zip_snoc _ _ _ _ _ (by rw [List.length_take, List.length_take]; omega), List.set_append_right _ _ (by omega), h1, Nat.sub_self]
  obtain ⟨n, rfl⟩ : ∃ n, m = n + 1 := ⟨m - 1, by omega⟩
  rw [List.replicate_succ, List.set_cons_zero, List.append_assoc]
  rfl

set_option maxHeartbeats 4000000 in
set_option maxRecDepth 100000 in
theorem lend_ok (w : World) (a b c : Int) (d : Bool) (A : Option Addr) (n : Nat) (l : List (List Int)) (hC : Kd.C (Kd.slice 72 (Kd.int .u16)) w A l.length l) (hn : l.length * 24 ≤ 140737488351232) (hl : ∀ x ∈ l, x.length * 2 ≤ 140737488351232) (hln : l.length ≤ n) :
    Calls Try.prog 28 #[.agg #[.int .i64 a, .int .i64 b, .int .i64 c, .bool d, .slice A l.length n]] w fun e w' => ∃ va gL gs,
      e = .returned (.agg #[.int .i64 a, .int .i64 b, .int .i64 c, .bool d, .slice (some ⟨gL, 0, none⟩) l.length (l.length + 2), va, .slice (some ⟨gL, 0, none⟩) (l.length + 2) (l.length + 2)]) ∧ gs.length = l.length ∧ St (top w) [lentIs va gL gs l] w' := by
  have HC := Lib.hid hC
  have HL := Lib.hid hl
  have HS := Lib.hid ((((St.top w).alloc' rfl [.int .i64 a, .int .i64 b, .int .i64 c, .bool d, .slice A l.length n] 39).alloc' (n := w.heap.size + 1) (by simp) [.int .i64 0, .int .i64 0, .int .i64 0, .bool false, .slice none 0 0, .slice none 0 0, .slice none 0 0] 46).alloc' (n := w.heap.size + 2) (by simp) [.int .i64 a, .int .i64 b, .int .i64 c, .bool d, .slice none 0 0, .slice none 0 0, .slice none 0 0] 46)
  clear hC hl
  go_enter Try.func28, Try.ntmps28
  go_wp2_with fail
  go_loopw [4] (fun v w' => ∃ (k : Nat) (va : Value) (gs : List Nat), v = .int .i64 (k : Nat) ∧ k ≤ l.length ∧ gs.length = k ∧ Hid (St (top w) [lendX (w.heap.size + 2) a b c d (.slice none 0 0) va (.slice none 0 0), blk (w.heap.size + 1) [.int .i64 0, .int .i64 0, .int .i64 0, .bool false, .slice none 0 0, .slice none 0 0, .slice none 0 0] 46, blk w.heap.size [.int .i64 a, .int .i64 b, .int .i64 c, .bool d, .slice A l.length n] 39, row 53 1 va k (List.zipWith lentV gs (l.take k)), Sep (List.zipWith lentRow gs (l.take k))] w')) (fun v _ => l.length - (intOf v).toNat)
  case atStart => exact ⟨0, .slice none 0 0, [], rfl, by omega, rfl, (St.add (p := True) trivial (HS.out.nilRow 53 1).back4).back5⟩
  case round =>
    obtain ⟨k, va, gs, rfl, hk, hgs, hS⟩ := hrel
    by_cases hkl : k < l.length
    · obtain ⟨pb, po, A', cap', rfl, hcell, hle, hCi⟩ := C_rowAt HC.out k hkl
      have hrl := HL.out (l.getD k []) (getD_memL _ _ _ hkl)
      have hsn := take_snoc l k [] hkl
      obtain ⟨rw_, hrw⟩ : ∃ r, l.getD k [] = r := ⟨_, rfl⟩
      rw [hrw] at hcell hle hCi hrl hsn
      have hcell := top_cell hS.out hcell
      have hCi := Kd.C_below hCi hS.out.below
      have HCI := Lib.hid hCi
      have HSN := Lib.hid hsn
      have hf4 : wr.cell? ⟨w.heap.size, 4, none⟩ = some (.slice (some ⟨pb, po, none⟩) l.length n) := St.cells_mem hS.out mm2 4
      have HS1 := hS
      clear hCi hsn hrw hS HS
      go_wp2_with fail
      refine (lentList_ok _ A' cap' rw_ HCI.out hrl).mono ?_
      rintro en w1 ⟨g, rfl, hS1⟩
      have hS2 := HS1.out.frame hS1
      simp only [List.cons_append, List.nil_append] at hS2
      have HS2 := Lib.hid hS2.rot5
      have hx5 : w1.cell? ⟨w.heap.size + 2, 5, none⟩ = some va := St.cells_mem hS2 mm1 5
      have hxf : w1.frozen? ⟨w.heap.size + 2, 5, none⟩ = false := by have := St.blk_mem hS2 mm1; simp [World.frozen?, this]
      clear hS1 hS2 HS1 hcell hf4
      unfold lentV
      go_wp2_with (at_builtin; go_must (refine St.append1 rfl (.tmp 25) (.tmp 27) _ rfl elemRow rfl HS2.out _ _ rfl rfl (by omega) (by simp [maxLen]; omega) ?_))
      intro g4 cp4 w9 hcp hS3
      have e5 : List.zipWith lentV gs (l.take k) ++ [Value.slice (some ⟨g, 0, none⟩) (rw_.length + 7) (rw_.length + 7)] = List.zipWith lentV (gs ++ [g]) (l.take (k + 1)) := by
        rw [HSN.out, zip_snoc _ _ _ _ _ (by rw [List.length_take]; omega)]; rfl
      have e6 : List.zipWith lentRow gs (l.take k) ++ [lentRow g rw_] = List.zipWith lentRow (gs ++ [g]) (l.take (k + 1)) := by
        rw [HSN.out, zip_snoc _ _ _ _ _ (by rw [List.length_take]; omega)]
      rw [e5] at hS3
      have hS4 : St (top w) (lendX (w.heap.size + 2) a b c d (.slice none 0 0) (.slice (some ⟨g4, 0, none⟩) (k + 1) cp4) (.slice none 0 0) :: _) _ := hS3.rot3.setCell 5 (.slice (some ⟨g4, 0, none⟩) (k + 1) cp4)
      have hS5 := hS4.rot6.rot4.sepSnoc.back5.swap.back4
      rw [e6] at hS5
      have hy5 : w9.cell? ⟨w.heap.size + 2, 5, none⟩ = some va := St.cells_mem hS3 mm2 5
      have hyf : w9.frozen? ⟨w.heap.size + 2, 5, none⟩ = false := by have := St.blk_mem hS3 mm2; simp [World.frozen?, this]
      have HS5 := Lib.hid hS5
      clear hS3 hS4 hS5 e5 e6 HS2 hx5 hxf hcp
      go_wp2_with fail
      go_roundw
      case rel => exact ⟨k + 1, _, gs ++ [g], by go_num, by omega, by simp [hgs], HS5⟩
      case measure => simp [intOf]; omega
    · have hkl : k = l.length := by omega
      subst hkl
      rw [List.take_of_length_le (Nat.le_refl _)] at hS
      have hx0 := hS.out
      have hf4 : wr.cell? ⟨w.heap.size, 4, none⟩ = some (.slice A l.length n) := St.cells_mem hx0 mm2 4
      clear hx0
      go_wp2_with (at_make; go_must (refine St.make1 rfl _ _ _ rfl elemRow rfl (l.length + 2) rfl rfl hS.out (by omega) (by unfold maxLen; omega) ?_))
      intro gL w1 hS1
      have hS2 : St (top w) (lendX (w.heap.size + 2) a b c d (.slice none 0 0) va (.slice (some ⟨gL, 0, none⟩) (l.length + 2) (l.length + 2)) :: _) _ := hS1.swap.setCell 6 (.slice (some ⟨gL, 0, none⟩) (l.length + 2) (l.length + 2))
      have hy5 : w1.cell? ⟨w.heap.size + 2, 6, none⟩ = some (.slice none 0 0) := St.cells_mem hS1 mm1 6
      have hyf : w1.frozen? ⟨w.heap.size + 2, 6, none⟩ = false := by have := St.blk_mem hS1 mm1; simp [World.frozen?, this]
      have HS2 := Lib.hid hS2.swap
      clear hS1 hS2 hS hf4
      go_wp2_with fail
      go_loopw [6] (fun v w' => ∃ (k : Nat), v = .int .i64 (k : Nat) ∧ k ≤ l.length ∧ Hid (St (top w) [row 53 1 (.slice (some ⟨gL, 0, none⟩) (l.length + 2) (l.length + 2)) (l.length + 2) (List.zipWith headV (gs.take k) (l.take k) ++ List.replicate (l.length + 2 - k) (Value.slice none 0 0)), lendX (w.heap.size + 2) a b c d (.slice none 0 0) va (.slice (some ⟨gL, 0, none⟩) (l.length + 2) (l.length + 2)), blk (w.heap.size + 1) [.int .i64 0, .int .i64 0, .int .i64 0, .bool false, .slice none 0 0, .slice none 0 0, .slice none 0 0] 46, blk w.heap.size [.int .i64 a, .int .i64 b, .int .i64 c, .bool d, .slice A l.length n] 39, row 53 1 va l.length (List.zipWith lentV gs l), Sep (List.zipWith lentRow gs l)] w')) (fun v _ => l.length - (intOf v).toNat)
      case atStart => exact ⟨0, rfl, by omega, by simpa [Hid] using HS2.out⟩
      case round =>
        obtain ⟨k, rfl, hk, hS⟩ := hrel
        by_cases hkl : k < l.length
        · obtain ⟨pb, po, A', cap', rfl, hcell, hle, hCi⟩ := C_rowAt HC.out k hkl
          have hcell := top_cell hS.out hcell
          have hf4 : wr.cell? ⟨w.heap.size, 4, none⟩ = some (.slice (some ⟨pb, po, none⟩) l.length n) := St.cells_mem hS.out mm3 4
          obtain ⟨ga, capA, rfl, hcapA, -, hacell, -⟩ := hS.out.rot5.rowAt (by omega)
          have hx5 : wr.cell? ⟨w.heap.size + 2, 5, none⟩ = some (.slice (some ⟨ga, 0, none⟩) l.length capA) := St.cells_mem hS.out mm1 5
          have hx6 : wr.cell? ⟨w.heap.size + 2, 6, none⟩ = some (.slice (some ⟨gL, 0, none⟩) (l.length + 2) (l.length + 2)) := St.cells_mem hS.out mm1 6
          have ha := hacell k (by omega)
          rw [zip_at lentV gs l k 0 [] (by omega) hkl] at ha
          obtain ⟨gL2, cL2, e, hq1, hq2, hlcell, hlf⟩ := hS.out.rowAt (by omega)
          cases e
          have hlf' := hlf k
          obtain ⟨old, hold⟩ : ∃ u, wr.cell? ⟨gL, k, none⟩ = some u := by
            have := hlcell k (by omega)
            rw [this]
            refine ⟨_, List.getElem?_eq_getElem ?_⟩
            rw [List.length_append, List.length_zipWith, List.length_take, List.length_take, List.length_replicate]; omega
          have hnew := hS.out.setRow k (headV (gs.getD k 0) (l.getD k []))
          rw [heads_set gs l k (l.length + 2 - k) hgs hkl (by omega)] at hnew
          have HN := Lib.hid hnew
          obtain ⟨rw_, hrw⟩ : ∃ r, l.getD k [] = r := ⟨_, rfl⟩
          obtain ⟨gk, hgk⟩ : ∃ r, gs.getD k 0 = r := ⟨_, rfl⟩
          unfold lentV at ha
          rw [hrw, hgk] at ha
          rw [hrw] at hcell hle
          rw [hrw, hgk] at HN
          have t1 : (0 : Int) ≤ (k : Int) := by omega
          have t2 : (k : Int) < l.length := by omega
          have t3 : (k : Int) < ((l.length + 2 : Nat) : Int) := by omega
          clear hnew hlcell hlf hacell hS hrw hgk
          go_wp2_with fail
          go_region
          go_wp2_with fail
          go_roundw
          case rel => exact ⟨k + 1, by go_num, by omega, HN.out.drewN 1⟩
          case measure => simp [intOf]; omega
        · have hkl : k = l.length := by omega
          subst hkl
          have e1 : l.length + 2 - l.length = 2 := by omega
          rw [List.take_of_length_le (Nat.le_refl _), List.take_of_length_le (by omega), e1] at hS
          obtain ⟨aoA, capA, rfl, hq1, hq2, hq3, hq4⟩ := hS.out.rot5.rowShape
          clear hq1 hq2 hq3 hq4
          have hf4 : wr.cell? ⟨w.heap.size, 4, none⟩ = some (.slice A l.length n) := St.cells_mem hS.out mm3 4
          have hx := hS.out.blk_mem (g := w.heap.size + 2) mm1
          have c0 : wr.cell? ⟨w.heap.size + 2, 0, none⟩ = some (.int .i64 a) := St.cells_mem hS.out mm1 0
          have c1 : wr.cell? ⟨w.heap.size + 2, 1, none⟩ = some (.int .i64 b) := St.cells_mem hS.out mm1 1
          have c2 : wr.cell? ⟨w.heap.size + 2, 2, none⟩ = some (.int .i64 c) := St.cells_mem hS.out mm1 2
          have c3 : wr.cell? ⟨w.heap.size + 2, 3, none⟩ = some (.bool d) := St.cells_mem hS.out mm1 3
          have c4 : wr.cell? ⟨w.heap.size + 2, 4, none⟩ = some (.slice none 0 0) := St.cells_mem hS.out mm1 4
          have c5 : wr.cell? ⟨w.heap.size + 2, 5, none⟩ = some (.slice aoA l.length capA) := St.cells_mem hS.out mm1 5
          have c6 : wr.cell? ⟨w.heap.size + 2, 6, none⟩ = some (.slice (some ⟨gL, 0, none⟩) (l.length + 2) (l.length + 2)) := St.cells_mem hS.out mm1 6
          have fx : ∀ i, wr.frozen? ⟨w.heap.size + 2, i, none⟩ = false := fun i => by simp [World.frozen?, hx]
          have fx4 := fx 4
          have hr := hS.out.blk_mem (g := w.heap.size + 1) mm2
          have d0 : wr.cell? ⟨w.heap.size + 1, 0, none⟩ = some (.int .i64 0) := St.cells_mem hS.out mm2 0
          have d1 : wr.cell? ⟨w.heap.size + 1, 1, none⟩ = some (.int .i64 0) := St.cells_mem hS.out mm2 1
          have d2 : wr.cell? ⟨w.heap.size + 1, 2, none⟩ = some (.int .i64 0) := St.cells_mem hS.out mm2 2
          have d3 : wr.cell? ⟨w.heap.size + 1, 3, none⟩ = some (.bool false) := St.cells_mem hS.out mm2 3
          have d4 : wr.cell? ⟨w.heap.size + 1, 4, none⟩ = some (.slice none 0 0) := St.cells_mem hS.out mm2 4
          have d5 : wr.cell? ⟨w.heap.size + 1, 5, none⟩ = some (.slice none 0 0) := St.cells_mem hS.out mm2 5
          have d6 : wr.cell? ⟨w.heap.size + 1, 6, none⟩ = some (.slice none 0 0) := St.cells_mem hS.out mm2 6
          have fr : ∀ i, wr.frozen? ⟨w.heap.size + 1, i, none⟩ = false := fun i => by simp [World.frozen?, hr]
          have fr0 := fr 0
          have fr1 := fr 1
          have fr2 := fr 2
          have fr3 := fr 3
          have fr4 := fr 4
          have fr5 := fr 5
          have fr6 := fr 6
          clear fx fr hx hr
          have HSX := hS
          clear hS
          go_wp2_with fail
          have h1 := HSX.out.swap
          have h2 : St (top w) (blk (w.heap.size + 2) [.int .i64 a, .int .i64 b, .int .i64 c, .bool d, .slice (some ⟨gL, 0, none⟩) l.length (l.length + 2), .slice aoA l.length capA, .slice (some ⟨gL, 0, none⟩) (l.length + 2) (l.length + 2)] 46 :: _) _ := h1.setCell 4 (.slice (some ⟨gL, 0, none⟩) l.length (l.length + 2))
          have h3 := ((((((h2.rot3.setCell 0 (.int .i64 a)).setCell 1 (.int .i64 b)).setCell 2 (.int .i64 c)).setCell 3 (.bool d)).setCell 4 (.slice (some ⟨gL, 0, none⟩) l.length (l.length + 2))).setCell 5 (.slice aoA l.length capA)).setCell 6 (.slice (some ⟨gL, 0, none⟩) (l.length + 2) (l.length + 2))
          have h4 := h3.blk_at
          refine bodyPost_ret (results_cell_row rfl _ _ (w.heap.size + 1) 46 #[.int .i64 a, .int .i64 b, .int .i64 c, .bool d, .slice (some ⟨gL, 0, none⟩) l.length (l.length + 2), .slice aoA l.length capA, .slice (some ⟨gL, 0, none⟩) (l.length + 2) (l.length + 2)] (0, 0) _ rfl h4 Try.underlying46 rfl (by kernel_rfl)) rfl ⟨_, gL, gs, rfl, hgs, ?_⟩
          exact (St.unstar (St.unstar h3.drop.drop.swap.drop.swap.back3).swap)

end Go.Proofs.Ytdoikehkibefpaa
