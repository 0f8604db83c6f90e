import Derived.Test.YtdoikehkibefpaaBookL
/-! own -/
namespace Go.Proofs.Ytdoikehkibefpaa
set_option linter.unusedSimpArgs false
set_option linter.unusedVariables false
open Go Go.RowKit Go.Proofs.YtdoikehkibefpaaW.PrintWords Go.Proofs.YtdoikehkibefpaaW.PrintLast

theorem drop_none {α : Type} (l : List α) : l.drop l.length = [] := List.drop_length
theorem take_set_ge {α : Type} (l : List α) (k : Nat) (x : α) : (l.set k x).take k = l.take k := by
 apply List.ext_getElem?
 intro j
 simp only [List.getElem?_take, List.getElem?_set]
 split
 ·rw [if_neg (by omega)]
 ·rfl
theorem fill_at (l : List Int) (m : Value) (j : Nat) (hj : j < l.length) : (List.replicate j m ++ (nums .u16 l).drop j).set j m = List.replicate (j + 1) m ++ (nums .u16 l).drop (j + 1) := by
 have h1 : j < (nums .u16 l).length := by rw [nums_length]; exact hj
 rw [List.set_append_right _ _ (by simp), List.length_replicate, Nat.sub_self, List.drop_eq_getElem_cons h1, List.set_cons_zero, List.replicate_succ', List.append_assoc]
 rfl

set_option maxHeartbeats 32000000 in
set_option maxRecDepth 100000 in
theorem own_ok (c : Ctx) (R : List HP) (w : World) (gB n : Nat) (os : List Nat) (hS : St c (book gB n os :: R) w) (hn : n ≤ 1000) (ho : os.length ≤ 10) (ho2 : ∀ x ∈ os, x ≤ 20) :
  Calls Try.prog 27 #[.pointer (some ⟨gB, 0, none⟩)] w fun e w' => e = .returned (.bool true) ∧ St c (book gB (2 * n + 40 * os.length) (os.map (· + 2)) :: R) w' := by
 obtain ⟨vl, hs, vout, vos, outs, hpre, rfl, hvo, hbig, h0⟩ := hS.bookOpen
 clear hS
 obtain ⟨aoO, capO, rfl, -, -, -, -⟩ := h0.rot4.rowShape
 obtain ⟨aoL, capL, rfl, -, -, -, -⟩ := h0.swap.rowShape
 rw [List.length_map] at ho ⊢
 have ho2 : ∀ i, (outs.getD i []).length ≤ 20 := by
  intro i
  by_cases hi : i < outs.length
  ·exact ho2 _ (List.mem_map_of_mem (getD_mem0 [] outs i hi))
  ·rw [List.getD_eq_getElem?_getD, List.getElem?_eq_none (by omega)]; exact Nat.zero_le _
 have hpre : Pre hs.length hs.length hs.length hs ∧ hs.length ≤ n := ⟨⟨Nat.le_refl _, Nat.le_refl _, hpre.len, hpre.len2, hpre.mark⟩, hpre.many⟩
 obtain ⟨hpre, hsn⟩ := hpre
 have HO2 := Lib.hid ho2
 have HBIG := Lib.hid hbig
 have HPRE := Lib.hid hpre
 have HS : Hid (St c (bkB gB (.slice aoL hs.length capL) (.slice aoO outs.length capO) :: bkH (.slice aoL hs.length capL) hs :: bkP hs :: bkO (.slice aoO outs.length capO) outs.length vos :: Sep (List.zipWith bare (vos.take 0) (outs.take 0)) :: Sep (List.zipWith matU (vos.drop 0) (outs.drop 0)) :: R) w) := by
  have h1 : St c (Sep (List.zipWith matU (vos.drop 0) (outs.drop 0)) :: bkB gB (.slice aoL hs.length capL) (.slice aoO outs.length capO) :: bkH (.slice aoL hs.length capL) hs :: bkP hs :: bkO (.slice aoO outs.length capO) outs.length vos :: R) w := h0.rot5
  have h2 : St c (Sep (List.zipWith bare (vos.take 0) (outs.take 0)) :: Sep (List.zipWith matU (vos.drop 0) (outs.drop 0)) :: bkB gB (.slice aoL hs.length capL) (.slice aoO outs.length capO) :: bkH (.slice aoL hs.length capL) hs :: bkP hs :: bkO (.slice aoO outs.length capO) outs.length vos :: R) w := h1.sepNil
  exact h2.back6.back6
 obtain ⟨n0, hn0⟩ : ∃ q, hs.length = q := ⟨_, rfl⟩
 have b0 : w.cell? ⟨gB, 0, none⟩ = some (.slice aoL hs.length capL) := St.cells_mem h0 mm0 0
 clear h0 ho2 hbig hpre
 go_enter Try.func27, Try.ntmps27
 go_wp2_with fail
 clear b0
 have HN0 := Lib.hid hn0
 rw [hn0] at HPRE hsn
 go_loopw [4] (fun v w' => ∃ (i : Nat) (hs : List (Value × Value)) (aoL : Option Addr) (capL : Nat), v = .int .i64 (i : Nat) ∧ i ≤ outs.length ∧ Hid (Pre n0 (n0 + 20 * i) n0 hs) ∧ Hid (St c (bkB gB (.slice aoL hs.length capL) (.slice aoO outs.length capO) :: bkH (.slice aoL hs.length capL) hs :: bkP hs :: bkO (.slice aoO outs.length capO) outs.length vos :: Sep (List.zipWith bare (vos.take i) (outs.take i)) :: Sep (List.zipWith matU (vos.drop i) (outs.drop i)) :: R) w')) (fun v _ => outs.length - (intOf v).toNat)
 case atStart => exact ⟨0, hs, aoL, capL, rfl, by omega, HPRE, HS⟩
 case round =>
  obtain ⟨i, hs1, aoL, capL, rfl, hi, hpre, hS⟩ := hrel
  clear HS HPRE hn0
  have b2 : wr.cell? ⟨gB, 2, none⟩ = some (.slice aoO outs.length capO) := St.cells_mem hS.out mm0 2
  by_cases hil : i < outs.length
  ·obtain ⟨gO, rfl, -, -⟩ := outAt hS.out.rot4 i hil
   obtain ⟨oi, hoi⟩ : ∃ q, outs.getD i [] = q := ⟨_, rfl⟩
   obtain ⟨vi, hvi⟩ : ∃ q, vos.getD i (.slice none 0 0) = q := ⟨_, rfl⟩
   have h1 := St.stepOut matU vos outs i (.slice none 0 0) [] (by omega) hil hS.out.rot6
   rw [hoi, hvi] at h1
   obtain ⟨us, hus, h2⟩ := h1.matOpen
   obtain ⟨aoV, capV, hve, -, -, -, -⟩ := h2.rowShape
   obtain ⟨no, hno⟩ : ∃ q, oi.length = q := ⟨_, rfl⟩
   rw [hno] at h2 hus hve
   subst hve
   have hno20 : no ≤ 20 := by rw [← hno, ← hoi]; exact HO2.out i
   have hlk : ∀ k, (oi.getD k []).length ≤ 134217728 := by
    intro k
    by_cases hk : k < oi.length
    ·exact HBIG.out oi (by rw [← hoi]; exact getD_mem0 _ _ _ hil) _ (getD_mem0 _ _ _ hk)
    ·rw [List.getD_eq_getElem?_getD, List.getElem?_eq_none (by omega)]; exact Nat.zero_le _
   have HLK := Lib.hid hlk
   have HOI := Lib.hid hoi
   have HVI := Lib.hid hvi
   have HUS := Lib.hid hus
   have HNO := Lib.hid hno
   have HO : Hid (∀ w' R', St c (bkO (.slice (some ⟨gO, 0, none⟩) outs.length capO) outs.length vos :: R') w' → w'.cell? ⟨gO, i, none⟩ = some (.slice aoV no capV)) := by
    intro w' R' h
    obtain ⟨g, e1, h1, -⟩ := outAt h i hil
    cases e1
    rw [hvi] at h1
    exact h1
   have H2 : Hid (St c (bkB gB (.slice aoL hs1.length capL) (.slice (some ⟨gO, 0, none⟩) outs.length capO) :: bkH (.slice aoL hs1.length capL) hs1 :: bkP hs1 :: bkO (.slice (some ⟨gO, 0, none⟩) outs.length capO) outs.length vos :: row 53 1 (.slice aoV no capV) no us :: Sep (List.zipWith (inner 72 .u16) (us.drop 0) (oi.drop 0)) :: Sep (List.zipWith bare (vos.take i) (outs.take i)) :: Sep (List.zipWith matU (vos.drop (i + 1)) (outs.drop (i + 1))) :: R) wr) := h2.reo 8 [3, 4, 5, 6, 0, 1, 7, 2] (by decide)
   clear h1 h2 hS hoi hvi hus hno hlk
   go_wp2_with fail
   clear b2
   go_loopw [5] (fun v w' => ∃ (k : Nat) (hs1 : List (Value × Value)) (aoL : Option Addr) (capL : Nat), v = .int .i64 (k : Nat) ∧ k ≤ no ∧ Hid (Pre n0 (n0 + 20 * i + k) n0 hs1) ∧ Hid (St c (bkB gB (.slice aoL hs1.length capL) (.slice (some ⟨gO, 0, none⟩) outs.length capO) :: bkH (.slice aoL hs1.length capL) hs1 :: bkP hs1 :: bkO (.slice (some ⟨gO, 0, none⟩) outs.length capO) outs.length vos :: row 53 1 (.slice aoV no capV) no us :: Sep (List.zipWith (inner 72 .u16) (us.drop k) (oi.drop k)) :: Sep (List.zipWith bare (vos.take i) (outs.take i)) :: Sep (List.zipWith matU (vos.drop (i + 1)) (outs.drop (i + 1))) :: R) w')) (fun v _ => no - (intOf v).toNat)
   case atStart => exact ⟨0, hs1, aoL, capL, rfl, by omega, hpre, H2⟩
   case round =>
    clear hpre H2
    obtain ⟨k, hs2, aoL, capL, rfl, hk, hpre, hS⟩ := hrel
    have b2 : wr.cell? ⟨gB, 2, none⟩ = some (.slice (some ⟨gO, 0, none⟩) outs.length capO) := St.cells_mem hS.out mm0 2
    have b0 : wr.cell? ⟨gB, 0, none⟩ = some (.slice aoL hs2.length capL) := St.cells_mem hS.out mm0 0
    have o1 := HO.out _ _ hS.out.rot4
    by_cases hkl : k < no
    ·have h1 := St.stepOut (inner 72 .u16) us oi k (.slice none 0 0) [] (by rw [HUS.out]; exact hkl) (by rw [HNO.out]; exact hkl) hS.out.rot6
     have hlk := HLK.out k
     obtain ⟨lk, hlk2⟩ : ∃ q, oi.getD k [] = q := ⟨_, rfl⟩
     obtain ⟨uk, huk⟩ : ∃ q, us.getD k (.slice none 0 0) = q := ⟨_, rfl⟩
     rw [hlk2, huk] at h1
     rw [hlk2] at hlk
     obtain ⟨nk, hnk⟩ : ∃ q, lk.length = q := ⟨_, rfl⟩
     have h2 : St c (row 72 1 uk lk.length (nums .u16 lk) :: _) wr := h1
     obtain ⟨aoK, capK, rfl, -, -, -, -⟩ := h2.rowShape
     rw [hnk] at h2 hlk huk
     obtain ⟨gV, hgV⟩ : ∃ gV, aoV = some ⟨gV, 0, none⟩ := by
      obtain ⟨g, cap', he, -⟩ := hS.out.rot5.rowAt (by omega)
      simp only [Value.slice.injEq] at he
      exact ⟨g, he.1⟩
     subst hgV
     have HV : Hid (∀ w' R', St c (row 53 1 (.slice (some ⟨gV, 0, none⟩) no capV) no us :: R') w' → w'.cell? ⟨gV, k, none⟩ = some (.slice aoK nk capK)) := by
      intro w' R' h
      obtain ⟨g, cap', he, -, -, hcell, -⟩ := h.rowAt (by omega)
      simp only [Value.slice.injEq, Option.some.injEq, Addr.mk.injEq, and_true, true_and] at he
      obtain ⟨rfl, -⟩ := he
      have hku : k < us.length := by rw [HUS.out]; exact hkl
      rw [hcell k (by omega), ← huk, List.getD_eq_getElem?_getD, List.getElem?_eq_getElem hku]
      rfl
     have HNK := Lib.hid hnk
     have v1 := HV.out _ _ hS.out.rot5
     obtain ⟨m5, hm5⟩ : ∃ q, hs2.length % 50000 = q := ⟨_, rfl⟩
     have hm5' : m5 < 50000 := by rw [← hm5]; exact Nat.mod_lt _ (by decide)
     have hmi : (hs2.length : Int) % 50000 = (m5 : Int) := by omega
     have H3 : Hid (St c (row 72 1 (.slice aoK nk capK) nk (List.replicate 0 (.int .u16 (5000 + (m5 : Int))) ++ (nums .u16 lk).drop 0) :: bkB gB (.slice aoL hs2.length capL) (.slice (some ⟨gO, 0, none⟩) outs.length capO) :: bkH (.slice aoL hs2.length capL) hs2 :: bkP hs2 :: bkO (.slice (some ⟨gO, 0, none⟩) outs.length capO) outs.length vos :: row 53 1 (.slice (some ⟨gV, 0, none⟩) no capV) no us :: Sep (List.zipWith (inner 72 .u16) (us.drop (k + 1)) (oi.drop (k + 1))) :: Sep (List.zipWith bare (vos.take i) (outs.take i)) :: Sep (List.zipWith matU (vos.drop (i + 1)) (outs.drop (i + 1))) :: R) wr) := h2.reo 7 [0, 2, 3, 4, 5, 6, 1] (by decide)
     have hlk' : lenV (.slice aoK nk capK) ≤ BIG := hlk
     clear h1 h2 hS hlk2 huk hnk hm5
     go_wp2_with fail
     clear b0 b2 o1 v1 hmi
     go_loopw [7] (fun v w' => ∃ (j : Nat), v = .int .i64 (j : Nat) ∧ j ≤ nk ∧ Hid (St c (row 72 1 (.slice aoK nk capK) nk (List.replicate j (.int .u16 (5000 + (m5 : Int))) ++ (nums .u16 lk).drop j) :: bkB gB (.slice aoL hs2.length capL) (.slice (some ⟨gO, 0, none⟩) outs.length capO) :: bkH (.slice aoL hs2.length capL) hs2 :: bkP hs2 :: bkO (.slice (some ⟨gO, 0, none⟩) outs.length capO) outs.length vos :: row 53 1 (.slice (some ⟨gV, 0, none⟩) no capV) no us :: Sep (List.zipWith (inner 72 .u16) (us.drop (k + 1)) (oi.drop (k + 1))) :: Sep (List.zipWith bare (vos.take i) (outs.take i)) :: Sep (List.zipWith matU (vos.drop (i + 1)) (outs.drop (i + 1))) :: R) w')) (fun v _ => nk - (intOf v).toNat)
     case atStart => exact ⟨0, rfl, by omega, H3⟩
     case round =>
      clear H3
      obtain ⟨j, rfl, hj, hS⟩ := hrel
      have b2 : wr.cell? ⟨gB, 2, none⟩ = some (.slice (some ⟨gO, 0, none⟩) outs.length capO) := St.cells_mem hS.out mm1 2
      have o1 := HO.out _ _ hS.out.rot5
      have v1 := HV.out _ _ hS.out.rot6
      by_cases hjl : j < nk
      ·obtain ⟨gK, cap', he, -, hxl, hcell, hfr⟩ := hS.out.rowAt (by omega)
       simp only [Value.slice.injEq] at he
       obtain ⟨rfl, -, rfl⟩ := he
       have hjx : j < (List.replicate j (Value.int .u16 (5000 + (m5 : Int))) ++ (nums .u16 lk).drop j).length := by omega
       have k1 := (hcell j (by omega)).trans (List.getElem?_eq_getElem hjx)
       have k2 := hfr j
       have hnew := hS.out.setRow j (.int .u16 (5000 + (m5 : Int)))
       rw [fill_at _ _ _ (by rw [HNK.out]; exact hjl)] at hnew
       have HN := Lib.hid hnew
       clear hnew hcell hfr hxl hS
       go_wp2_with fail
       go_roundw
       case rel => exact ⟨j + 1, by go_num, by omega, HN⟩
       case measure => simp [intOf]; omega
      ·have hjl : j = nk := by omega
       subst hjl
       have hfull : List.replicate j (Value.int .u16 (5000 + (m5 : Int))) ++ (nums .u16 lk).drop j = List.replicate j (Value.int .u16 (5000 + (m5 : Int))) := by
        rw [List.drop_eq_nil_of_le (by rw [nums_length, HNK.out]; exact Nat.le_refl _), List.append_nil]
       rw [hfull] at hS
       have h1 := (hS.out.rot4.swap.poolAdd).poolSnoc
       have b0 : wr.cell? ⟨gB, 0, none⟩ = some (.slice aoL hs2.length capL) := St.cells_mem h1 mm1 0
       have H0 := Lib.hid h1.drew
       have hpn := hpre.out.snoc hlk' (5000 + (m5 : Int))
       have hmany := hpre.out.many
       clear hS h1 hfull
       go_wp2_with fail
       clear b0 b2 o1 v1
       refine start_ (n := 22) (S := fun w' => w'.cell? ⟨gB, 0, none⟩ = some (.slice aoL hs2.length capL) ∧ w'.cell? ⟨gB, 2, none⟩ = some (.slice (some ⟨gO, 0, none⟩) outs.length capO) ∧ w'.cell? ⟨gO, i, none⟩ = some (.slice (some ⟨gV, 0, none⟩) no capV) ∧ w'.cell? ⟨gV, k, none⟩ = some (.slice aoK j capK)) (ds := [18, 21]) #[false, false, false, false, false, false, false, false, false, false, false, false, false, false, false, false, false, false, false, false, false, false] (by kernel_rfl) rfl rfl ⟨St.cells_mem H0.out mm1 0, St.cells_mem H0.out mm1 2, HO.out _ _ H0.out.rot4, HV.out _ _ H0.out.rot5⟩ (fun hHeld => ?_)
       refine pu 0 78 #[true, false, false, false, false, false, false, false, false, false, false, false, false, false, false, false, false, false, false, false, false, false] ?_
       refine pu 1 79 #[true, true, false, false, false, false, false, false, false, false, false, false, false, false, false, false, false, false, false, false, false, false] ?_
       refine pu 2 80 #[true, true, true, false, false, false, false, false, false, false, false, false, false, false, false, false, false, false, false, false, false, false] ?_
       refine pu 3 81 #[true, true, true, true, false, false, false, false, false, false, false, false, false, false, false, false, false, false, false, false, false, false] ?_
       refine pu 5 83 #[true, true, true, true, false, true, false, false, false, false, false, false, false, false, false, false, false, false, false, false, false, false] ?_
       refine pu 6 84 #[true, true, true, true, false, true, true, false, false, false, false, false, false, false, false, false, false, false, false, false, false, false] ?_
       refine pu 7 85 #[true, true, true, true, false, true, true, true, false, false, false, false, false, false, false, false, false, false, false, false, false, false] ?_
       refine pu 9 87 #[true, true, true, true, false, true, true, true, false, true, false, false, false, false, false, false, false, false, false, false, false, false] ?_
       refine pu 12 90 #[true, true, true, true, false, true, true, true, false, true, false, false, true, false, false, false, false, false, false, false, false, false] ?_
       refine pu 15 93 #[true, true, true, true, false, true, true, true, false, true, false, false, true, false, false, true, false, false, false, false, false, false] ?_
       refine ta 4 82 #[true, true, true, true, true, true, true, true, false, true, false, false, true, false, false, true, false, false, false, false, false, false] hHeld ?_
       refine ta 8 86 #[true, true, true, true, true, true, true, true, true, true, false, false, true, false, false, true, false, false, false, false, false, false] hHeld ?_
       refine pu 10 88 #[true, true, true, true, true, true, true, true, true, true, true, false, true, false, false, true, false, false, false, false, false, false] ?_
       refine ta 11 89 #[true, true, true, true, true, true, true, true, true, true, true, true, true, false, false, true, false, false, false, false, false, false] hHeld ?_
       refine pu 13 91 #[true, true, true, true, true, true, true, true, true, true, true, true, true, true, false, true, false, false, false, false, false, false] ?_
       refine ta 14 92 #[true, true, true, true, true, true, true, true, true, true, true, true, true, true, true, true, false, false, false, false, false, false] hHeld ?_
       refine pu 16 94 #[true, true, true, true, true, true, true, true, true, true, true, true, true, true, true, true, true, false, false, false, false, false] ?_
       refine one_ (i := 17) (N := some 95) #[true, true, true, true, true, true, true, true, true, true, true, true, true, true, true, true, true, true, false, false, false, false] rfl rfl (by kernel_rfl) (by decide) (fun K hK => ?_)
       refine value_ (w1 := ?_) (v := ?_) (by rfl) rfl ?_ ?_
       rotate_left 2
       ·go_simp
        constructor
        ·rfl
        ·rfl
       have H1 := Lib.hid (H0.out.alloc' rfl [.slice aoK j capK, .int .u16 (5000 + (m5 : Int))] 97)
       refine hK.out _ _ ⟨St.cells_mem H1.out mm2 0, St.cells_mem H1.out mm2 2, HO.out _ _ H1.out.rot5, HV.out _ _ H1.out.rot6⟩ (fun hHeld => ?_)
       clear hK K
       refine norm_ (a' := ?_) ?_ ?_
       rotate_left
       ·show Act.put _ (some 95) _ = _
        simp only [Act.put, List.setIfInBounds_toArray, List.set_cons_zero, List.set_cons_succ, i64_w, i32_w]
        rfl
       refine last_ (i := 18) (N := some 96) #[true, true, true, true, true, true, true, true, true, true, true, true, true, true, true, true, true, true, true, false, false, false] rfl rfl (by kernel_rfl) (by decide) (fun K hK => ?_)
       have q0 : World.cell? _ ⟨_, 0, none⟩ = some (.slice aoK j capK) := St.cells_mem H1.out mm0 0
       have q1 : World.cell? _ ⟨_, 1, none⟩ = some (.int .u16 (5000 + (m5 : Int))) := St.cells_mem H1.out mm0 1
       refine St.stepAppend (by rfl) (.tmp 82) (.tmp 95) _ (by rfl) elemHeld (by rfl) H1.out.rot4 ⟨_, 0, none⟩ 1 1 [.slice aoK j capK, .int .u16 (5000 + (m5 : Int))] (by rfl) rfl (fun j u hj => by match j, hj with | 0, hj => (simp at hj; subst hj; exact q0) | 1, hj => (simp at hj; subst hj; exact q1)) (fun u hu => by simp at hu; rcases hu with rfl | rfl <;> rfl) (by omega) (by unfold maxLen; omega) ?_
       intro v96 w96 hS96
       obtain ⟨ao96, cap96, rfl, -, -, -, -⟩ := hS96.rowShape
       have H2 := Lib.hid hS96.swap.drop
       have hb0 : w96.cell? ⟨gB, 0, none⟩ = some (.slice aoL hs2.length capL) := St.cells_mem H2.out mm2 0
       have hbb := St.blk_mem (g := gB) H2.out mm2
       have hbz : w96.frozen? ⟨gB, 0, none⟩ = false := by simp [World.frozen?, hbb]
       have h3 := H2.out.rot3.setCell 0 (.slice ao96 (hs2.length + 1) cap96)
       have H3 := Lib.hid h3
       clear h3 hbb hS96 q0 q1
       refine hK.out _ _ ?_
       clear hK K
       refine norm_ (a' := ?_) ?_ ?_
       rotate_left
       ·show Act.put _ (some 96) _ = _
        simp only [Act.put, List.setIfInBounds_toArray, List.set_cons_zero, List.set_cons_succ, i64_w, i32_w]
        rfl
       refine pu 19 97 #[true, true, true, true, true, true, true, true, true, true, true, true, true, true, true, true, true, true, true, true, false, false] ?_
       refine pu 20 98 #[true, true, true, true, true, true, true, true, true, true, true, true, true, true, true, true, true, true, true, true, true, false] ?_
       refine last_ (i := 21) (N := none) #[true, true, true, true, true, true, true, true, true, true, true, true, true, true, true, true, true, true, true, true, true, true] rfl rfl (by kernel_rfl) (by decide) (fun K hK => ?_)
       refine skip_ (w1 := ?_) (by rfl) rfl ?_ ?_
       rotate_left
       ·go_simp
        rfl
       refine hK.out _ _ ?_
       clear hK K
       refine done_ (by kernel_rfl) ?_
       go_wp2_with fail
       go_roundw
       case rel =>
        refine ⟨k + 1, _, ao96, cap96, by go_num, by omega, hpn, ?_⟩
        have hl : (hs2 ++ [(Value.slice aoK j capK, Value.int .u16 (5000 + (m5 : Int)))]).length = hs2.length + 1 := by simp
        show St c _ _
        unfold bkH
        rw [hl, hc_snoc]
        exact H3.out
       case measure => simp [intOf]; omega
    ·have hkl : k = no := by omega
     subst hkl
     have h1 := hS.out.rot6
     have h2 : St c (row 53 1 (.slice aoV k capV) k us :: Sep (List.zipWith bare (vos.take i) (outs.take i)) :: bkB gB (.slice aoL hs2.length capL) (.slice (some ⟨gO, 0, none⟩) outs.length capO) :: bkH (.slice aoL hs2.length capL) hs2 :: bkP hs2 :: bkO (.slice (some ⟨gO, 0, none⟩) outs.length capO) outs.length vos :: Sep (List.zipWith matU (vos.drop (i + 1)) (outs.drop (i + 1))) :: R) wr := h1.drop.reo 7 [4, 5, 0, 1, 2, 3, 6] (by decide)
     have h3 : St c (bare (vos.getD i (.slice none 0 0)) (outs.getD i []) :: Sep (List.zipWith bare (vos.take i) (outs.take i)) :: bkB gB (.slice aoL hs2.length capL) (.slice (some ⟨gO, 0, none⟩) outs.length capO) :: bkH (.slice aoL hs2.length capL) hs2 :: bkP hs2 :: bkO (.slice (some ⟨gO, 0, none⟩) outs.length capO) outs.length vos :: Sep (List.zipWith matU (vos.drop (i + 1)) (outs.drop (i + 1))) :: R) wr := by
      rw [HVI.out, HOI.out]
      unfold bare
      rw [HNO.out]
      exact St.close us h2
     have h4 := St.stepIn bare vos outs i _ _ (by omega) hil h3
     have H5 : Hid (St c (bkB gB (.slice aoL hs2.length capL) (.slice (some ⟨gO, 0, none⟩) outs.length capO) :: bkH (.slice aoL hs2.length capL) hs2 :: bkP hs2 :: bkO (.slice (some ⟨gO, 0, none⟩) outs.length capO) outs.length vos :: Sep (List.zipWith bare (vos.take (i + 1)) (outs.take (i + 1))) :: Sep (List.zipWith matU (vos.drop (i + 1)) (outs.drop (i + 1))) :: R) wr) := h4.reo 6 [1, 2, 3, 4, 0, 5] (by decide)
     have hp5 : Hid (Pre n0 (n0 + 20 * (i + 1)) n0 hs2) := by
      have h := hpre.out
      exact ⟨h.low, by have := h.many; omega, h.len, h.len2, h.mark⟩
     clear h1 h2 h3 h4 hS hpre
     go_wp2_with fail
     go_roundw
     case rel => exact ⟨i + 1, hs2, aoL, capL, by go_num, by omega, hp5, H5⟩
     case measure => simp [intOf]; omega
  ·have hil : i = outs.length := by omega
   subst hil
   have h1 := hS.out.rot6.drop
   have H4 : Hid (St c (bkB gB (.slice aoL hs1.length capL) (.slice aoO outs.length capO) :: bkH (.slice aoL hs1.length capL) hs1 :: bkP hs1 :: bkO (.slice aoO outs.length capO) outs.length vos :: Sep (List.zipWith bare vos outs) :: R) wr) := by
    have h2 := h1
    rw [List.take_of_length_le (by omega), List.take_of_length_le (Nat.le_refl _)] at h2
    exact h2
   have b0 : wr.cell? ⟨gB, 0, none⟩ = some (.slice aoL hs1.length capL) := St.cells_mem hS.out mm0 0
   have hmany := hpre.out.many
   have hlow := hpre.out.low
   have hp2 : Hid (Pre2 n0 hs1.length hs1) := ⟨hpre.out.len, fun j h1 _ => hpre.out.len2 j h1, hpre.out.mark⟩
   clear h1 hS hpre
   as_aux_lemma =>
    go_wp2_with fail
    clear b0 b2
    go_loopw [9] (fun v w' => ∃ (i : Nat) (hs4 : List (Value × Value)) (aoL : Option Addr) (capL : Nat), v = .int .i64 (i : Nat) ∧ n0 ≤ i ∧ i ≤ hs1.length ∧ hs4.length = hs1.length + (i - n0) ∧ Hid (Pre2 i hs1.length hs4) ∧ Hid (St c (bkB gB (.slice aoL hs4.length capL) (.slice aoO outs.length capO) :: bkH (.slice aoL hs4.length capL) hs4 :: bkP hs4 :: bkO (.slice aoO outs.length capO) outs.length vos :: Sep (List.zipWith bare vos outs) :: R) w')) (fun v _ => hs1.length - (intOf v).toNat)
    case atStart => exact ⟨n0, hs1, aoL, capL, rfl, Nat.le_refl _, hlow, by omega, hp2, H4⟩
    case round =>
     clear H4 hp2
     obtain ⟨i, hs4, aoL, capL, rfl, hin, hi, hl4, hp2, hS⟩ := hrel
     have hb4 : hs4.length ≤ 5000 := by omega
     have hge4 : hs1.length ≤ hs4.length := by omega
     have HL4 := Lib.hid hl4
     clear hl4
     by_cases hil : i < hs1.length
     ·obtain ⟨gL, rfl, -, -, -⟩ := heldAt hS.out.swap i (by omega)
      obtain ⟨m, hm⟩ := hp2.out.mark i
      have hln := hp2.out.len2 i (Nat.le_refl _) hil
      have hmem : hs4.getD i z0 ∈ hs4 := getD_mem0 _ _ _ (by omega)
      obtain ⟨⟨v, mv⟩, hp⟩ : ∃ p, hs4.getD i z0 = p := ⟨_, rfl⟩
      rw [hp] at hm hln hmem
      simp only at hm
      subst hm
      obtain ⟨aoK, nK, capK, rfl, -, -, -, -⟩ := hS.out.rot3.poolAt hmem
      have hln : nK ≤ 134217728 := hln
      have hset : hs4.set i (.slice aoK nK capK, .int .u16 m) = hs4 := by
       apply List.ext_getElem
       ·simp
       ·intro j h1 h2
        rw [List.getElem_set]
        split
        ·rename_i hj
         subst hj
         rw [← hp, List.getD_eq_getElem?_getD, List.getElem?_eq_getElem h2]; rfl
        ·rfl
      have hi4 : i < hs4.length := by omega
      have HG : Hid (∀ V : Value, (hs4.set i (V, .int .u16 m)).getD i z0 = (V, .int .u16 m)) := fun V => by rw [getD_set', if_pos ⟨rfl, hi4⟩]
      have HF : Hid (∀ (V : Value) (w' : World) (R' : List HP), St c (row 97 2 (.slice (some ⟨gL, 0, none⟩) hs4.length capL) hs4.length (hc (hs4.set i (V, .int .u16 m))) :: R') w' → w'.cell? ⟨gL, i * 2, none⟩ = some V ∧ w'.cell? ⟨gL, i * 2 + 1, none⟩ = some (.int .u16 m) ∧ w'.frozen? ⟨gL, i * 2, none⟩ = false) := by
       intro V w' R' h
       have h2 : St c (bkH (.slice (some ⟨gL, 0, none⟩) (hs4.set i (V, .int .u16 m)).length capL) (hs4.set i (V, .int .u16 m)) :: R') w' := by
        unfold bkH
        rw [List.length_set]
        exact h
       obtain ⟨g, e1, h3, h4, h5⟩ := heldAt h2 i (by rw [List.length_set]; exact hi4)
       cases e1
       rw [HG.out] at h3 h4
       exact ⟨h3, h4, h5 _⟩
      have HMEM : Hid (∀ V : Value, (V, Value.int .u16 m) ∈ hs4.set i (V, .int .u16 m)) := fun V => by have h := getD_mem0 z0 (hs4.set i (V, .int .u16 m)) i (by rw [List.length_set]; exact hi4); rw [HG.out] at h; exact h
      have H5 : Hid (St c (bkB gB (.slice (some ⟨gL, 0, none⟩) hs4.length capL) (.slice aoO outs.length capO) :: row 97 2 (.slice (some ⟨gL, 0, none⟩) hs4.length capL) hs4.length (hc (hs4.set i (.slice aoK nK capK, .int .u16 m))) :: bkP (hs4.set i (.slice aoK nK capK, .int .u16 m)) :: bkO (.slice aoO outs.length capO) outs.length vos :: Sep (List.zipWith bare vos outs) :: R) wr) := by
       show St c _ _
       rw [hset]
       exact hS.out
      clear hp hmem hset hS
      go_wp2_with fail
      go_loopw [10] (fun v w' => ∃ (k : Nat) (aoK : Option Addr) (nK capK : Nat), v = .int .i64 (k : Nat) ∧ k ≤ 20 ∧ nK ≤ 134217728 + k ∧ Hid (St c (bkB gB (.slice (some ⟨gL, 0, none⟩) hs4.length capL) (.slice aoO outs.length capO) :: row 97 2 (.slice (some ⟨gL, 0, none⟩) hs4.length capL) hs4.length (hc (hs4.set i (.slice aoK nK capK, .int .u16 m))) :: bkP (hs4.set i (.slice aoK nK capK, .int .u16 m)) :: bkO (.slice aoO outs.length capO) outs.length vos :: Sep (List.zipWith bare vos outs) :: R) w')) (fun v _ => 20 - (intOf v).toNat)
      case atStart => exact ⟨0, aoK, nK, capK, rfl, by omega, by omega, H5⟩
      case round =>
       clear H5 hln
       obtain ⟨k, aoK, nK, capK, rfl, hk, hln, hS⟩ := hrel
       have b0 : wr.cell? ⟨gB, 0, none⟩ = some (.slice (some ⟨gL, 0, none⟩) hs4.length capL) := St.cells_mem hS.out mm0 0
       obtain ⟨l0, l1, -⟩ := HF.out _ _ _ hS.out.swap
       by_cases hkl : k < 20
       ·go_wp2_with fail
        clear b0 l0 l1
        have H0 := Lib.hid hS.out.drew
        clear hS
        refine start_ (n := 26) (S := fun w' => w'.cell? ⟨gB, 0, none⟩ = some (.slice (some ⟨gL, 0, none⟩) hs4.length capL) ∧ w'.cell? ⟨gL, i * 2, none⟩ = some (.slice aoK nK capK) ∧ w'.cell? ⟨gL, i * 2 + 1, none⟩ = some (.int .u16 m)) (ds := [25]) #[false, false, false, false, false, false, false, false, false, false, false, false, false, false, false, false, false, false, false, false, false, false, false, false, false, false] (by kernel_rfl) rfl rfl ⟨St.cells_mem H0.out mm0 0, (HF.out _ _ _ H0.out.swap).1, (HF.out _ _ _ H0.out.swap).2.1⟩ (fun hHeld => ?_)
        refine pu 0 114 #[true, false, false, false, false, false, false, false, false, false, false, false, false, false, false, false, false, false, false, false, false, false, false, false, false, false] ?_
        refine pu 1 115 #[true, true, false, false, false, false, false, false, false, false, false, false, false, false, false, false, false, false, false, false, false, false, false, false, false, false] ?_
        refine pu 2 116 #[true, true, true, false, false, false, false, false, false, false, false, false, false, false, false, false, false, false, false, false, false, false, false, false, false, false] ?_
        refine pu 4 118 #[true, true, true, false, true, false, false, false, false, false, false, false, false, false, false, false, false, false, false, false, false, false, false, false, false, false] ?_
        refine pu 5 119 #[true, true, true, false, true, true, false, false, false, false, false, false, false, false, false, false, false, false, false, false, false, false, false, false, false, false] ?_
        refine pu 6 120 #[true, true, true, false, true, true, true, false, false, false, false, false, false, false, false, false, false, false, false, false, false, false, false, false, false, false] ?_
        refine pu 7 121 #[true, true, true, false, true, true, true, true, false, false, false, false, false, false, false, false, false, false, false, false, false, false, false, false, false, false] ?_
        refine pu 9 123 #[true, true, true, false, true, true, true, true, false, true, false, false, false, false, false, false, false, false, false, false, false, false, false, false, false, false] ?_
        refine pu 13 127 #[true, true, true, false, true, true, true, true, false, true, false, false, false, true, false, false, false, false, false, false, false, false, false, false, false, false] ?_
        refine pu 14 128 #[true, true, true, false, true, true, true, true, false, true, false, false, false, true, true, false, false, false, false, false, false, false, false, false, false, false] ?_
        refine pu 15 129 #[true, true, true, false, true, true, true, true, false, true, false, false, false, true, true, true, false, false, false, false, false, false, false, false, false, false] ?_
        refine pu 17 131 #[true, true, true, false, true, true, true, true, false, true, false, false, false, true, true, true, false, true, false, false, false, false, false, false, false, false] ?_
        refine ta 3 117 #[true, true, true, true, true, true, true, true, false, true, false, false, false, true, true, true, false, true, false, false, false, false, false, false, false, false] hHeld ?_
        refine ta 8 122 #[true, true, true, true, true, true, true, true, true, true, false, false, false, true, true, true, false, true, false, false, false, false, false, false, false, false] hHeld ?_
        refine pu 10 124 #[true, true, true, true, true, true, true, true, true, true, true, false, false, true, true, true, false, true, false, false, false, false, false, false, false, false] ?_
        refine pu 11 125 #[true, true, true, true, true, true, true, true, true, true, true, true, false, true, true, true, false, true, false, false, false, false, false, false, false, false] ?_
        refine ta 12 126 #[true, true, true, true, true, true, true, true, true, true, true, true, true, true, true, true, false, true, false, false, false, false, false, false, false, false] hHeld ?_
        refine ta 16 130 #[true, true, true, true, true, true, true, true, true, true, true, true, true, true, true, true, true, true, false, false, false, false, false, false, false, false] hHeld ?_
        refine pu 18 132 #[true, true, true, true, true, true, true, true, true, true, true, true, true, true, true, true, true, true, true, false, false, false, false, false, false, false] ?_
        refine pu 19 133 #[true, true, true, true, true, true, true, true, true, true, true, true, true, true, true, true, true, true, true, true, false, false, false, false, false, false] ?_
        refine ta 20 134 #[true, true, true, true, true, true, true, true, true, true, true, true, true, true, true, true, true, true, true, true, true, false, false, false, false, false] hHeld ?_
        refine one_ (i := 21) (N := some 135) #[true, true, true, true, true, true, true, true, true, true, true, true, true, true, true, true, true, true, true, true, true, true, false, false, false, false] rfl rfl (by kernel_rfl) (by decide) (fun K hK => ?_)
        refine value_ (w1 := ?_) (v := ?_) (by rfl) rfl ?_ ?_
        rotate_left 2
        ·go_simp
         constructor
         ·rfl
         ·rfl
        have H1 := Lib.hid (H0.out.alloc' rfl [.int .u16 m] 72)
        refine hK.out _ _ ⟨St.cells_mem H1.out mm1 0, (HF.out _ _ _ H1.out.rot3).1, (HF.out _ _ _ H1.out.rot3).2.1⟩ (fun hHeld => ?_)
        clear hK K
        refine norm_ (a' := ?_) ?_ ?_
        rotate_left
        ·show Act.put _ (some 135) _ = _
         simp only [Act.put, List.setIfInBounds_toArray, List.set_cons_zero, List.set_cons_succ, i64_w, i32_w]
         rfl
        refine one_ (i := 22) (N := some 136) #[true, true, true, true, true, true, true, true, true, true, true, true, true, true, true, true, true, true, true, true, true, true, true, false, false, false] rfl rfl (by kernel_rfl) (by decide) (fun K hK => ?_)
        have q0 : World.cell? _ ⟨_, 0, none⟩ = some (.int .u16 m) := St.cells_mem H1.out mm0 0
        refine St.stepPool (by rfl) (.tmp 126) (.tmp 135) _ (by rfl) elemU16 (by rfl) H1.out.rot4 (HMEM.out _) ⟨_, 0, none⟩ 1 (by rfl) q0 rfl (by omega) (by unfold maxLen; omega) ?_
        intro g136 cp136 w136 hcp hS136
        have h2 := (hS136.poolSet i).swap.drop
        rw [List.set_set] at h2
        have H2 := Lib.hid h2
        obtain ⟨hcl, hcm, hfz⟩ := HF.out _ _ _ H2.out.rot3
        have h3 := H2.out.rot3.setRow (i * 2) (.slice (some ⟨g136, 0, none⟩) (nK + 1) cp136)
        rw [hc_set _ _ _ (by rw [List.length_set]; exact hi4), HG.out, List.set_set] at h3
        have H4 := Lib.hid (h3.reo 3 [2, 0, 1] (by decide))
        clear q0 hS136 h2 h3
        refine hK.out _ _ ⟨St.cells_mem H2.out mm1 0, hcl, hcm⟩ (fun hHeld => ?_)
        clear hK K
        refine norm_ (a' := ?_) ?_ ?_
        rotate_left
        ·show Act.put _ (some 136) _ = _
         simp only [Act.put, List.setIfInBounds_toArray, List.set_cons_zero, List.set_cons_succ, i64_w, i32_w]
         rfl
        refine pu 23 137 #[true, true, true, true, true, true, true, true, true, true, true, true, true, true, true, true, true, true, true, true, true, true, true, true, false, false] ?_
        refine pu 24 138 #[true, true, true, true, true, true, true, true, true, true, true, true, true, true, true, true, true, true, true, true, true, true, true, true, true, false] ?_
        refine last_ (i := 25) (N := none) #[true, true, true, true, true, true, true, true, true, true, true, true, true, true, true, true, true, true, true, true, true, true, true, true, true, true] rfl rfl (by kernel_rfl) (by decide) (fun K hK => ?_)
        refine skip_ (w1 := ?_) (by rfl) rfl ?_ ?_
        rotate_left
        ·go_simp
         rfl
        refine hK.out _ _ ?_
        clear hK K
        refine done_ (by kernel_rfl) ?_
        go_wp2_with fail
        go_roundw
        case rel => exact ⟨k + 1, some ⟨g136, 0, none⟩, nK + 1, cp136, by go_num, by omega, by omega, H4⟩
        case measure => simp [intOf]; omega
       ·have H6 : Hid (St c (pool 72 ((.slice aoK nK capK, .int .u16 m) :: (hs4.set i (.slice aoK nK capK, .int .u16 m))) :: bkB gB (.slice (some ⟨gL, 0, none⟩) hs4.length capL) (.slice aoO outs.length capO) :: row 97 2 (.slice (some ⟨gL, 0, none⟩) hs4.length capL) hs4.length (hc (hs4.set i (.slice aoK nK capK, .int .u16 m))) :: bkO (.slice aoO outs.length capO) outs.length vos :: Sep (List.zipWith bare vos outs) :: R) wr) := (hS.out.rot3.poolSub (l' := (.slice aoK nK capK, .int .u16 m) :: hs4.set i (.slice aoK nK capK, .int .u16 m)) (fun p hp => (List.mem_cons.1 hp).elim (fun e => by subst e; exact HMEM.out _) id))
        clear hS
        go_wp2_with fail
        clear b0 l0 l1
        go_loopw [11, 12] (fun mv v w' => ∃ (k : Nat) (aoM : Option Addr) (nM capM : Nat), mv = .slice aoM nM capM ∧ v = .int .i64 (k : Nat) ∧ k ≤ 70 ∧ nM ≤ 134217728 + 20 + k ∧ Hid (St c (pool 72 ((.slice aoM nM capM, .int .u16 m) :: (hs4.set i (.slice aoK nK capK, .int .u16 m))) :: bkB gB (.slice (some ⟨gL, 0, none⟩) hs4.length capL) (.slice aoO outs.length capO) :: row 97 2 (.slice (some ⟨gL, 0, none⟩) hs4.length capL) hs4.length (hc (hs4.set i (.slice aoK nK capK, .int .u16 m))) :: bkO (.slice aoO outs.length capO) outs.length vos :: Sep (List.zipWith bare vos outs) :: R) w')) (fun _ v _ => 70 - (intOf v).toNat)
        case atStart => exact ⟨0, aoK, nK, capK, rfl, rfl, by omega, by omega, H6⟩
        case round =>
         clear H6
         obtain ⟨k, aoM, nM, capM, rfl, rfl, hk, hlm, hS⟩ := hrel
         have b0 : wr.cell? ⟨gB, 0, none⟩ = some (.slice (some ⟨gL, 0, none⟩) hs4.length capL) := St.cells_mem hS.out mm1 0
         obtain ⟨l0, l1, -⟩ := HF.out _ _ _ hS.out.rot3
         clear l0
         by_cases hkl : k < 70
         ·go_wp2_with (at_builtin; go_must (refine St.poolAppend1 rfl (.tmp 151) (.tmp 160) _ rfl elemU16 rfl hS.out mm0 _ rfl rfl (by omega) (by simp [maxLen]; omega) ?_))
          intro g' cp' w' hcp h1
          have H7 : Hid (St c (pool 72 ((.slice (some ⟨g', 0, none⟩) (nM + 1) cp', .int .u16 m) :: (hs4.set i (.slice aoK nK capK, .int .u16 m))) :: bkB gB (.slice (some ⟨gL, 0, none⟩) hs4.length capL) (.slice aoO outs.length capO) :: row 97 2 (.slice (some ⟨gL, 0, none⟩) hs4.length capL) hs4.length (hc (hs4.set i (.slice aoK nK capK, .int .u16 m))) :: bkO (.slice aoO outs.length capO) outs.length vos :: Sep (List.zipWith bare vos outs) :: R) w') := h1.poolSub (fun p hp => (List.mem_cons.1 hp).elim (fun e => by subst e; exact List.mem_cons_self) (fun h => List.mem_cons_of_mem _ (List.mem_cons_of_mem _ h)))
          clear h1 hS b0 l1
          go_wp2_with fail
          go_roundw
          case rel => exact ⟨k + 1, some ⟨g', 0, none⟩, nM + 1, cp', rfl, by go_num, by omega, by omega, H7⟩
          case measure => simp [intOf]; omega
         ·have H0 := Lib.hid hS.out.drew
          clear hS
          go_wp2_with fail
          clear b0 l1
          refine start_ (n := 20) (S := fun w' => w'.cell? ⟨gB, 0, none⟩ = some (.slice (some ⟨gL, 0, none⟩) hs4.length capL) ∧ w'.cell? ⟨gL, i * 2 + 1, none⟩ = some (.int .u16 m)) (ds := [16, 19]) #[false, false, false, false, false, false, false, false, false, false, false, false, false, false, false, false, false, false, false, false] (by kernel_rfl) rfl rfl ⟨St.cells_mem H0.out mm1 0, (HF.out _ _ _ H0.out.rot3).2.1⟩ (fun hHeld => ?_)
          refine pu 0 162 #[true, false, false, false, false, false, false, false, false, false, false, false, false, false, false, false, false, false, false, false] ?_
          refine pu 1 163 #[true, true, false, false, false, false, false, false, false, false, false, false, false, false, false, false, false, false, false, false] ?_
          refine pu 2 164 #[true, true, true, false, false, false, false, false, false, false, false, false, false, false, false, false, false, false, false, false] ?_
          refine pu 3 165 #[true, true, true, true, false, false, false, false, false, false, false, false, false, false, false, false, false, false, false, false] ?_
          refine pu 5 167 #[true, true, true, true, false, true, false, false, false, false, false, false, false, false, false, false, false, false, false, false] ?_
          refine pu 6 168 #[true, true, true, true, false, true, true, false, false, false, false, false, false, false, false, false, false, false, false, false] ?_
          refine pu 7 169 #[true, true, true, true, false, true, true, true, false, false, false, false, false, false, false, false, false, false, false, false] ?_
          refine pu 8 170 #[true, true, true, true, false, true, true, true, true, false, false, false, false, false, false, false, false, false, false, false] ?_
          refine pu 10 172 #[true, true, true, true, false, true, true, true, true, false, true, false, false, false, false, false, false, false, false, false] ?_
          refine ta 4 166 #[true, true, true, true, true, true, true, true, true, false, true, false, false, false, false, false, false, false, false, false] hHeld ?_
          refine ta 9 171 #[true, true, true, true, true, true, true, true, true, true, true, false, false, false, false, false, false, false, false, false] hHeld ?_
          refine pu 11 173 #[true, true, true, true, true, true, true, true, true, true, true, true, false, false, false, false, false, false, false, false] ?_
          refine pu 12 174 #[true, true, true, true, true, true, true, true, true, true, true, true, true, false, false, false, false, false, false, false] ?_
          refine ta 13 175 #[true, true, true, true, true, true, true, true, true, true, true, true, true, true, false, false, false, false, false, false] hHeld ?_
          refine pu 14 176 #[true, true, true, true, true, true, true, true, true, true, true, true, true, true, true, false, false, false, false, false] ?_
          refine one_ (i := 15) (N := some 177) #[true, true, true, true, true, true, true, true, true, true, true, true, true, true, true, true, false, false, false, false] rfl rfl (by kernel_rfl) (by decide) (fun K hK => ?_)
          refine value_ (w1 := ?_) (v := ?_) (by rfl) rfl ?_ ?_
          rotate_left 2
          ·go_simp
           constructor
           ·rfl
           ·rfl
          have H1 := Lib.hid (H0.out.alloc' rfl [.slice aoM nM capM, .int .u16 m] 97)
          refine hK.out _ _ ⟨St.cells_mem H1.out mm2 0, (HF.out _ _ _ H1.out.rot4).2.1⟩ (fun hHeld => ?_)
          clear hK K
          refine norm_ (a' := ?_) ?_ ?_
          rotate_left
          ·show Act.put _ (some 177) _ = _
           simp only [Act.put, List.setIfInBounds_toArray, List.set_cons_zero, List.set_cons_succ, i64_w, i32_w]
           rfl
          refine last_ (i := 16) (N := some 178) #[true, true, true, true, true, true, true, true, true, true, true, true, true, true, true, true, true, false, false, false] rfl rfl (by kernel_rfl) (by decide) (fun K hK => ?_)
          have q0 : World.cell? _ ⟨_, 0, none⟩ = some (.slice aoM nM capM) := St.cells_mem H1.out mm0 0
          have q1 : World.cell? _ ⟨_, 1, none⟩ = some (.int .u16 m) := St.cells_mem H1.out mm0 1
          refine St.stepAppend (by rfl) (.tmp 166) (.tmp 177) _ (by rfl) elemHeld (by rfl) H1.out.rot4 ⟨_, 0, none⟩ 1 1 [.slice aoM nM capM, .int .u16 m] (by rfl) rfl (fun j u hj => by match j, hj with | 0, hj => (simp at hj; subst hj; exact q0) | 1, hj => (simp at hj; subst hj; exact q1)) (fun u hu => by simp at hu; rcases hu with rfl | rfl <;> rfl) (by omega) (by unfold maxLen; omega) ?_
          intro v178 w178 hS178
          obtain ⟨ao178, cap178, rfl, -, -, -, -⟩ := hS178.rowShape
          have H2 := Lib.hid hS178.swap.drop
          have hb0 : w178.cell? ⟨gB, 0, none⟩ = some (.slice (some ⟨gL, 0, none⟩) hs4.length capL) := St.cells_mem H2.out mm2 0
          have hbb := St.blk_mem (g := gB) H2.out mm2
          have hbz : w178.frozen? ⟨gB, 0, none⟩ = false := by simp [World.frozen?, hbb]
          have h3 := (H2.out.rot3.setCell 0 (.slice ao178 (hs4.length + 1) cap178)).rot3.poolSnoc.reo 3 [1, 2, 0] (by decide)
          have H3 := Lib.hid h3
          clear h3 hbb hS178 q0 q1
          refine hK.out _ _ ?_
          clear hK K
          refine norm_ (a' := ?_) ?_ ?_
          rotate_left
          ·show Act.put _ (some 178) _ = _
           simp only [Act.put, List.setIfInBounds_toArray, List.set_cons_zero, List.set_cons_succ, i64_w, i32_w]
           rfl
          refine pu 17 179 #[true, true, true, true, true, true, true, true, true, true, true, true, true, true, true, true, true, true, false, false] ?_
          refine pu 18 180 #[true, true, true, true, true, true, true, true, true, true, true, true, true, true, true, true, true, true, true, false] ?_
          refine last_ (i := 19) (N := none) #[true, true, true, true, true, true, true, true, true, true, true, true, true, true, true, true, true, true, true, true] rfl rfl (by kernel_rfl) (by decide) (fun K hK => ?_)
          refine skip_ (w1 := ?_) (by rfl) rfl ?_ ?_
          rotate_left
          ·go_simp
           rfl
          refine hK.out _ _ ?_
          clear hK K
          refine done_ (by kernel_rfl) ?_
          go_wp2_with fail
          go_roundw
          case rel =>
           have hv1 : lenV (.slice aoK nK capK) ≤ BIG + 90 := (show nK ≤ 134217728 + 90 by omega)
           have hv2 : lenV (.slice aoM nM capM) ≤ BIG + 90 := (show nM ≤ 134217728 + 90 by omega)
           have hp3 := Lib.hid (hp2.out.step (v := .slice aoK nK capK) (v2 := .slice aoM nM capM) hge4 hil hv1 hv2 m)
           refine ⟨i + 1, hs4.set i (Value.slice aoK nK capK, Value.int .u16 m) ++ [(Value.slice aoM nM capM, Value.int .u16 m)], ao178, cap178, by go_num, by omega, by omega, by rw [List.length_append, List.length_set, HL4.out]; simp only [List.length_cons, List.length_nil]; omega, hp3, ?_⟩
           have hl : (hs4.set i (.slice aoK nK capK, Value.int .u16 m) ++ [(Value.slice aoM nM capM, Value.int .u16 m)]).length = hs4.length + 1 := by simp
           show St c _ _
           unfold bkH
           rw [hl, hc_snoc]
           exact H3.out
          case measure => simp [intOf]; omega
     ·have hil : i = hs1.length := by omega
      subst hil
      have hlen4 : hs4.length + n0 = 2 * hs1.length := by have := HL4.out; omega
      obtain ⟨nn, hnn⟩ : ∃ q : List Nat, (outs.map fun o => o.length + 2) = q := ⟨_, rfl⟩
      have hnl : nn.length = outs.length := by rw [← hnn, List.length_map]
      have hng : ∀ i, i < outs.length → nn.getD i 0 = (outs.getD i []).length + 2 := by
       intro i hi
       rw [← hnn, List.getD_eq_getElem?_getD, List.getElem?_map, List.getElem?_eq_getElem hi, List.getD_eq_getElem?_getD, List.getElem?_eq_getElem hi]
       rfl
      have hrl : (nn.map fun n => List.replicate n [(9 : Int)]).length = outs.length := by rw [List.length_map, hnl]
      have hrg : ∀ i, i < outs.length → (nn.map fun n => List.replicate n [(9 : Int)]).getD i [] = List.replicate ((outs.getD i []).length + 2) [9] := by
       intro i hi
       rw [← hng i hi, List.getD_eq_getElem?_getD, List.getElem?_map, List.getElem?_eq_getElem (by omega), List.getD_eq_getElem?_getD, List.getElem?_eq_getElem (show i < nn.length by omega)]
       rfl
      have H7 : Hid (St c (bkB gB (.slice aoL hs4.length capL) (.slice aoO outs.length capO) :: bkH (.slice aoL hs4.length capL) hs4 :: bkP hs4 :: bkO (.slice aoO outs.length capO) outs.length vos :: Sep (List.zipWith matU (vos.take 0) ((nn.map fun n => List.replicate n [(9 : Int)]).take 0)) :: Sep (List.zipWith bare (vos.drop 0) (outs.drop 0)) :: R) wr) := (hS.out.rot5.sepNil).reo 6 [2, 3, 4, 5, 0, 1] (by decide)
      have HNN := Lib.hid hnn
      have HRL := Lib.hid hrl
      have HRG := Lib.hid hrg
      have HL := Lib.hid hlen4
      have hl4b : hs4.length ≤ 2 * n0 + 40 * outs.length := by omega
      clear hnn hnl hng hrl hrg hS hlen4 HL4
      as_aux_lemma =>
       go_wp2_with fail
       go_loopw [13] (fun v w' => ∃ (i : Nat) (vos : List Value), v = .int .i64 (i : Nat) ∧ i ≤ outs.length ∧ vos.length = outs.length ∧ Hid (St c (bkB gB (.slice aoL hs4.length capL) (.slice aoO outs.length capO) :: bkH (.slice aoL hs4.length capL) hs4 :: bkP hs4 :: bkO (.slice aoO outs.length capO) outs.length vos :: Sep (List.zipWith matU (vos.take i) ((nn.map fun n => List.replicate n [(9 : Int)]).take i)) :: Sep (List.zipWith bare (vos.drop i) (outs.drop i)) :: R) w')) (fun v _ => outs.length - (intOf v).toNat)
       case atStart => exact ⟨0, vos, rfl, by omega, hvo, H7⟩
       case round =>
        clear H7 hvo
        obtain ⟨i, vos, rfl, hi, hvo, hS⟩ := hrel
        have b2 : wr.cell? ⟨gB, 2, none⟩ = some (.slice aoO outs.length capO) := St.cells_mem hS.out mm0 2
        by_cases hil : i < outs.length
        ·obtain ⟨gO, rfl, -, -⟩ := outAt hS.out.rot4 i hil
         obtain ⟨oi, hoi⟩ : ∃ q, outs.getD i [] = q := ⟨_, rfl⟩
         obtain ⟨vi, hvi⟩ : ∃ q, vos.getD i (.slice none 0 0) = q := ⟨_, rfl⟩
         have h1 := St.stepOut bare vos outs i (.slice none 0 0) [] (by omega) hil hS.out.rot6
         rw [hoi, hvi] at h1
         unfold bare at h1
         obtain ⟨us, h2⟩ := h1.open_
         obtain ⟨aoV, capV, hve, -, husl, -, -⟩ := h2.rowShape
         obtain ⟨no, hno⟩ : ∃ q, oi.length = q := ⟨_, rfl⟩
         rw [hno] at h2 husl hve
         subst hve
         have hus : us.length = no := by omega
         have hno20 : no ≤ 20 := by rw [← hno, ← hoi]; exact HO2.out i
         have HVI := Lib.hid hvi
         have HRI : Hid ((nn.map fun n => List.replicate n [(9 : Int)]).getD i [] = List.replicate (no + 2) [9]) := by
          show _ = _
          rw [HRG.out i hil, hoi, hno]
         have HO : Hid (∀ w' R', St c (bkO (.slice (some ⟨gO, 0, none⟩) outs.length capO) outs.length vos :: R') w' → w'.cell? ⟨gO, i, none⟩ = some (.slice aoV no capV) ∧ w'.frozen? ⟨gO, i, none⟩ = false) := by
          intro w' R' h
          obtain ⟨g, e1, h1, h2⟩ := outAt h i hil
          cases e1
          rw [hvi] at h1
          exact ⟨h1, h2 _⟩
         have H8 : Hid (St c (row 53 1 (.slice aoV no capV) no us :: Sep (List.zipWith (inner 72 .u16) (us.take 0) ((List.replicate no [(9 : Int)]).take 0)) :: bkB gB (.slice aoL hs4.length capL) (.slice (some ⟨gO, 0, none⟩) outs.length capO) :: bkH (.slice aoL hs4.length capL) hs4 :: bkP hs4 :: bkO (.slice (some ⟨gO, 0, none⟩) outs.length capO) outs.length vos :: Sep (List.zipWith matU (vos.take i) ((nn.map fun n => List.replicate n [(9 : Int)]).take i)) :: Sep (List.zipWith bare (vos.drop (i + 1)) (outs.drop (i + 1))) :: R) wr) := (h2.sepNil).reo 8 [1, 0, 3, 4, 5, 6, 7, 2] (by decide)
         obtain ⟨o1, -⟩ := HO.out _ _ hS.out.rot4
         clear h1 h2 hS hoi hvi hno husl
         go_wp2_with fail
         clear b2 o1
         go_loopw [14] (fun v w' => ∃ (k : Nat) (us : List Value), v = .int .i64 (k : Nat) ∧ k ≤ no ∧ us.length = no ∧ Hid (St c (row 53 1 (.slice aoV no capV) no us :: Sep (List.zipWith (inner 72 .u16) (us.take k) ((List.replicate no [(9 : Int)]).take k)) :: bkB gB (.slice aoL hs4.length capL) (.slice (some ⟨gO, 0, none⟩) outs.length capO) :: bkH (.slice aoL hs4.length capL) hs4 :: bkP hs4 :: bkO (.slice (some ⟨gO, 0, none⟩) outs.length capO) outs.length vos :: Sep (List.zipWith matU (vos.take i) ((nn.map fun n => List.replicate n [(9 : Int)]).take i)) :: Sep (List.zipWith bare (vos.drop (i + 1)) (outs.drop (i + 1))) :: R) w')) (fun v _ => no - (intOf v).toNat)
         case atStart => exact ⟨0, us, rfl, by omega, hus, H8⟩
         case round =>
          clear H8 hus
          obtain ⟨k, us, rfl, hk, hus, hS⟩ := hrel
          have b2 : wr.cell? ⟨gB, 2, none⟩ = some (.slice (some ⟨gO, 0, none⟩) outs.length capO) := St.cells_mem hS.out mm2 2
          obtain ⟨o1, -⟩ := HO.out _ _ hS.out.rot6
          by_cases hkl : k < no
          ·obtain ⟨gV, cap', he, -, hxl, hcell, hfr⟩ := hS.out.rowAt (by omega)
           simp only [Value.slice.injEq] at he
           obtain ⟨rfl, -, rfl⟩ := he
           have v1 := (hcell k (by omega)).trans (List.getElem?_eq_getElem (by omega))
           have v2 := hfr k
           have v3 : gV < wr.heap.size := World.block_lt_of_cell? wr ⟨gV, k, none⟩ v1
           have h1 := (hS.out.setRow k (.slice (some ⟨wr.heap.size, 0, none⟩) 1 1)).rowLit' (n := wr.heap.size) (by simp) 72 (.int .u16 9)
           have h2 : St c (inner 72 .u16 ((us.set k (.slice (some ⟨wr.heap.size, 0, none⟩) 1 1)).getD k (.slice none 0 0)) ((List.replicate no [(9 : Int)]).getD k []) :: Sep (List.zipWith (inner 72 .u16) ((us.set k (.slice (some ⟨wr.heap.size, 0, none⟩) 1 1)).take k) ((List.replicate no [(9 : Int)]).take k)) :: row 53 1 (.slice (some ⟨gV, 0, none⟩) no capV) no (us.set k (.slice (some ⟨wr.heap.size, 0, none⟩) 1 1)) :: bkB gB (.slice aoL hs4.length capL) (.slice (some ⟨gO, 0, none⟩) outs.length capO) :: bkH (.slice aoL hs4.length capL) hs4 :: bkP hs4 :: bkO (.slice (some ⟨gO, 0, none⟩) outs.length capO) outs.length vos :: Sep (List.zipWith matU (vos.take i) ((nn.map fun n => List.replicate n [(9 : Int)]).take i)) :: Sep (List.zipWith bare (vos.drop (i + 1)) (outs.drop (i + 1))) :: R) ((wr.setCell ⟨gV, k, none⟩ (.slice (some ⟨wr.heap.size, 0, none⟩) 1 1)).alloc (.cells #[.int .u16 9] 72)) := by
            rw [getD_set', if_pos ⟨rfl, by omega⟩, take_set_ge, show (List.replicate no [(9 : Int)]).getD k [] = [9] by simp [List.getD_eq_getElem?_getD, hkl]]
            exact h1.reo 3 [0, 2, 1] (by decide)
           have h3 := St.stepIn (inner 72 .u16) (us.set k (.slice (some ⟨wr.heap.size, 0, none⟩) 1 1)) (List.replicate no [(9 : Int)]) k _ _ (by rw [List.length_set]; omega) (by simp [hkl]) h2
           have HN := Lib.hid h3.swap
           clear h1 h2 h3 hS hcell hfr hxl
           go_wp2_with fail
           go_roundw
           case rel => exact ⟨k + 1, us.set k (Value.slice (some ⟨wr.heap.size, 0, none⟩) 1 1), by go_num, by omega, by rw [List.length_set]; exact hus, HN⟩
           case measure => simp [intOf]; omega
          ·have hkl : k = no := by omega
           subst hkl
           have hA := (((hS.out.rowLit 72 (.int .u16 9)).rowLit' (n := wr.heap.size + 1) (by simp) 72 (.int .u16 9)).alloc' (n := wr.heap.size + 2) (by simp) [.slice (some ⟨wr.heap.size, 0, none⟩) 1 1, .slice (some ⟨wr.heap.size + 1, 0, none⟩) 1 1] 53)
           have q0 := hA.cell 0
           have q1 := hA.cell 1
           simp only [List.getElem?_cons_zero, List.getElem?_cons_succ] at q0 q1
           have HA := Lib.hid hA
           have Q0 := Lib.hid q0
           have Q1 := Lib.hid q1
           clear hA q0 q1 hS
           go_wp2_with (at_builtin; go_must (refine St.append rfl (.tmp 218) (.tmp 221) _ rfl elemRow rfl HA.out.rot4 (some ⟨wr.heap.size + 2, 0, none⟩) 2 2 [.slice (some ⟨wr.heap.size, 0, none⟩) 1 1, .slice (some ⟨wr.heap.size + 1, 0, none⟩) 1 1] rfl rfl (fun h => by cases h) (fun ad had j u hj => by obtain rfl := Option.some.inj had; match j, hj with | 0, hj => (simp at hj; subst hj; exact Q0.out) | 1, hj => (simp at hj; subst hj; exact Q1.out)) (fun u hu => by simp at hu; rcases hu with rfl | rfl <;> rfl) (by omega) (by simp [maxLen]; omega) ?_))
           intro v' w' h1 _
           clear b2 o1 HA Q0 Q1
           obtain ⟨aoN, capN, rfl, -, -, -, -⟩ := h1.rowShape
           have h2 := h1.swap.drop
           rw [show us.take k = us from List.take_of_length_le (by omega)] at h2
           try rw [show (List.replicate k [(9 : Int)]).take k = List.replicate k [(9 : Int)] from List.take_of_length_le (by rw [List.length_replicate]; exact Nat.le_refl _)] at h2
           have h3 : St c (inner 72 .u16 (.slice (some ⟨wr.heap.size, 0, none⟩) 1 1) [9] :: Sep (List.zipWith (inner 72 .u16) us (List.replicate k [(9 : Int)])) :: inner 72 .u16 (.slice (some ⟨wr.heap.size + 1, 0, none⟩) 1 1) [9] :: row 53 1 (.slice aoN (k + 2) capN) (k + 2) (us ++ [.slice (some ⟨wr.heap.size, 0, none⟩) 1 1, .slice (some ⟨wr.heap.size + 1, 0, none⟩) 1 1]) :: bkB gB (.slice aoL hs4.length capL) (.slice (some ⟨gO, 0, none⟩) outs.length capO) :: bkH (.slice aoL hs4.length capL) hs4 :: bkP hs4 :: bkO (.slice (some ⟨gO, 0, none⟩) outs.length capO) outs.length vos :: Sep (List.zipWith matU (vos.take i) ((nn.map fun n => List.replicate n [(9 : Int)]).take i)) :: Sep (List.zipWith bare (vos.drop (i + 1)) (outs.drop (i + 1))) :: R) w' := h2.reo 4 [2, 3, 1, 0] (by decide)
           have h4 := h3.sepSnoc.swap.sepSnoc
           have he : (List.zipWith (inner 72 .u16) us (List.replicate k [(9 : Int)]) ++ [inner 72 .u16 (.slice (some ⟨wr.heap.size, 0, none⟩) 1 1) [9]]) ++ [inner 72 .u16 (.slice (some ⟨wr.heap.size + 1, 0, none⟩) 1 1) [9]] = List.zipWith (inner 72 .u16) (us ++ [.slice (some ⟨wr.heap.size, 0, none⟩) 1 1, .slice (some ⟨wr.heap.size + 1, 0, none⟩) 1 1]) (List.replicate (k + 2) [(9 : Int)]) := by
            rw [show List.replicate (k + 2) [(9 : Int)] = List.replicate k [9] ++ [[9], [9]] by rw [List.replicate_succ', List.replicate_succ', List.append_assoc]; rfl, List.zipWith_append (by simp [hus]), List.append_assoc]
            rfl
           rw [he] at h4
           have h5 : St c (matU (.slice aoN (k + 2) capN) (List.replicate (k + 2) [9]) :: bkB gB (.slice aoL hs4.length capL) (.slice (some ⟨gO, 0, none⟩) outs.length capO) :: bkH (.slice aoL hs4.length capL) hs4 :: bkP hs4 :: bkO (.slice (some ⟨gO, 0, none⟩) outs.length capO) outs.length vos :: Sep (List.zipWith matU (vos.take i) ((nn.map fun n => List.replicate n [(9 : Int)]).take i)) :: Sep (List.zipWith bare (vos.drop (i + 1)) (outs.drop (i + 1))) :: R) w' := by
            refine St.matShut (vs := us ++ [.slice (some ⟨wr.heap.size, 0, none⟩) 1 1, .slice (some ⟨wr.heap.size + 1, 0, none⟩) 1 1]) ?_
            rw [List.length_replicate]
            exact h4.swap
           have b2 : w'.cell? ⟨gB, 2, none⟩ = some (.slice (some ⟨gO, 0, none⟩) outs.length capO) := St.cells_mem h5 mm1 2
           obtain ⟨o1, o2⟩ := HO.out _ _ h5.rot5
           have h6 := (St.setRow h5.rot5 i (.slice aoN (k + 2) capN)).reo 7 [1, 5, 2, 3, 4, 0, 6] (by decide)
           have h7 : St c (matU ((vos.set i (.slice aoN (k + 2) capN)).getD i (.slice none 0 0)) ((nn.map fun n => List.replicate n [(9 : Int)]).getD i []) :: Sep (List.zipWith matU ((vos.set i (.slice aoN (k + 2) capN)).take i) ((nn.map fun n => List.replicate n [(9 : Int)]).take i)) :: bkB gB (.slice aoL hs4.length capL) (.slice (some ⟨gO, 0, none⟩) outs.length capO) :: bkH (.slice aoL hs4.length capL) hs4 :: bkP hs4 :: bkO (.slice (some ⟨gO, 0, none⟩) outs.length capO) outs.length (vos.set i (.slice aoN (k + 2) capN)) :: Sep (List.zipWith bare (vos.drop (i + 1)) (outs.drop (i + 1))) :: R) (w'.setCell ⟨gO, i, none⟩ (.slice aoN (k + 2) capN)) := by
            rw [getD_set', if_pos ⟨rfl, by omega⟩, HRI.out, take_set_ge]
            exact h6
           have h8 := St.stepIn matU (vos.set i (.slice aoN (k + 2) capN)) (nn.map fun n => List.replicate n [(9 : Int)]) i _ _ (by rw [List.length_set]; omega) (by rw [HRL.out]; exact hil) h7
           have H9 : Hid (St c (bkB gB (.slice aoL hs4.length capL) (.slice (some ⟨gO, 0, none⟩) outs.length capO) :: bkH (.slice aoL hs4.length capL) hs4 :: bkP hs4 :: bkO (.slice (some ⟨gO, 0, none⟩) outs.length capO) outs.length (vos.set i (.slice aoN (k + 2) capN)) :: Sep (List.zipWith matU ((vos.set i (.slice aoN (k + 2) capN)).take (i + 1)) ((nn.map fun n => List.replicate n [(9 : Int)]).take (i + 1))) :: Sep (List.zipWith bare ((vos.set i (.slice aoN (k + 2) capN)).drop (i + 1)) (outs.drop (i + 1))) :: R) (w'.setCell ⟨gO, i, none⟩ (.slice aoN (k + 2) capN))) := by
            show St c _ _
            rw [List.drop_set_of_lt (by omega)]
            exact h8.reo 6 [1, 2, 3, 4, 0, 5] (by decide)
           clear h1 h2 h3 h4 h5 h6 h7 h8 he
           go_wp2_with fail
           go_roundw
           case rel => exact ⟨i + 1, vos.set i (Value.slice aoN (k + 2) capN), by go_num, by omega, by rw [List.length_set]; exact hvo, H9⟩
           case measure => simp [intOf]; omega
        ·have hil : i = outs.length := by omega
         subst hil
         have h1 := hS.out.rot6.drop
         rw [show vos.take outs.length = vos from List.take_of_length_le (by omega), show (nn.map fun n => List.replicate n [(9 : Int)]).take outs.length = (nn.map fun n => List.replicate n [(9 : Int)]) from List.take_of_length_le (by rw [HRL.out]; exact Nat.le_refl _)] at h1
         have hnl : nn.length = outs.length := by have := HRL.out; rwa [List.length_map] at this
         have h2 : St c (bkB gB (.slice aoL hs4.length capL) (.slice aoO outs.length capO) :: bkH (.slice aoL hs4.length capL) hs4 :: bkP hs4 :: bkO (.slice aoO outs.length capO) nn.length vos :: bkM vos (nn.map fun n => List.replicate n [(9 : Int)]) :: R) wr := by rw [hnl]; exact h1
         have H2 := Lib.hid h2
         have hnb : ∀ x ∈ nn, x ≤ 1000 := by
          intro x hx
          rw [← HNN.out] at hx
          obtain ⟨o, ho3, rfl⟩ := List.mem_map.1 hx
          have := ho2 _ (List.mem_map_of_mem ho3)
          omega
         have HNB := Lib.hid hnb
         clear h1 h2 hS hnb
         go_wp2_with fail
         clear b2
         refine (looks_ok c R _ gB _ _ hs4 vos nn H2.out (by omega) (by omega) hp2.out.len hp2.out.mark (by omega) HNB.out).mono ?_
         rintro en w1 ⟨rfl, hS1⟩
         go_wp2_with fail
         go_ret
         refine ⟨rfl, ?_⟩
         have hmm : (nn.map fun n => List.replicate n [(9 : Int)]).map List.length = (outs.map List.length).map (· + 2) := by rw [← HNN.out]; simp [List.map_map, Function.comp_def]
         have hout : ∀ j, hs4.length ≤ j → lenV (hs4.getD j z0).1 ≤ BIG := by
          intro j hj
          rw [List.getD_eq_getElem?_getD, List.getElem?_eq_none hj]
          exact Nat.zero_le _
         have hfin := St.bookShut (outs := (nn.map fun n => List.replicate n [(9 : Int)])) (N := 2 * n + 40 * outs.length) (by rw [List.length_map]; exact hS1) ⟨Nat.zero_le _, by omega, hp2.out.len, hout, hp2.out.mark⟩ (by rw [List.length_map]; omega) (fun o ho3 l hl => by obtain ⟨x, -, rfl⟩ := List.mem_map.1 ho3; obtain rfl := List.eq_of_mem_replicate hl; exact (by decide : 1 ≤ 134217728))
         rw [hmm] at hfin
         exact hfin
end Go.Proofs.Ytdoikehkibefpaa
