import Derived.Test.YtdoikehkibefpaaBook
import Derived.Test.YtdoikehkibefpaaRgK
/-! looks -/
namespace Go.Proofs.Ytdoikehkibefpaa
set_option linter.unusedSimpArgs false
set_option linter.unusedVariables false
open Go Go.RowKit Go.Proofs.YtdoikehkibefpaaW.PrintWords Go.Proofs.YtdoikehkibefpaaW.PrintLast

section
variable {c : Ctx} {R : List HP} {w : World}
theorem getD_mem0 {α : Type} (z : α) (l : List α) (i : Nat) (hi : i < l.length) : l.getD i z ∈ l := by
 rw [List.getD_eq_getElem?_getD, List.getElem?_eq_getElem hi]; exact List.getElem_mem hi
/-- A held list and its mark. -/
theorem heldAt {ao : Option Addr} {cap : Nat} {hs : List (Value × Value)} (h : St c (bkH (.slice ao hs.length cap) hs :: R) w) (i : Nat) (hi : i < hs.length) :
  ∃ g, ao = some ⟨g, 0, none⟩ ∧ w.cell? ⟨g, i * 2, none⟩ = some (hs.getD i z0).1 ∧ w.cell? ⟨g, i * 2 + 1, none⟩ = some (hs.getD i z0).2 ∧ ∀ j, w.frozen? ⟨g, j, none⟩ = false := by
 obtain ⟨g, cap', he, -, -, hcell, hfr⟩ := h.rowAt (by omega)
 simp only [Value.slice.injEq] at he
 exact ⟨g, he.1, (hcell _ (by omega)).trans (hc_get0 hs i hi), (hcell _ (by omega)).trans (hc_get1 hs i hi), hfr⟩
theorem outAt {ao : Option Addr} {n cap : Nat} {vos : List Value} (h : St c (bkO (.slice ao n cap) n vos :: R) w) (i : Nat) (hi : i < n) :
  ∃ g, ao = some ⟨g, 0, none⟩ ∧ w.cell? ⟨g, i, none⟩ = some (vos.getD i (.slice none 0 0)) ∧ ∀ j, w.frozen? ⟨g, j, none⟩ = false := by
 obtain ⟨g, cap', he, -, hl, hcell, hfr⟩ := h.rowAt (by omega)
 simp only [Value.slice.injEq] at he
 refine ⟨g, he.1, ?_, hfr⟩
 rw [hcell i (by omega), List.getD_eq_getElem?_getD, List.getElem?_eq_getElem (by omega)]; rfl
end

set_option maxHeartbeats 8000000 in
set_option maxRecDepth 100000 in
theorem looks_ok (c : Ctx) (R : List HP) (w : World) (gB : Nat) (vl vout : Value) (hs : List (Value × Value)) (vos : List Value) (ns : List Nat) (hS : St c (bkB gB vl vout :: bkH vl hs :: bkP hs :: bkO vout ns.length vos :: bkM vos (ns.map fun n => List.replicate n [9]) :: R) w)
  (hv : vos.length = ns.length) (hN : hs.length ≤ 100000) (hlen : ∀ j, lenV (hs.getD j z0).1 ≤ BIG + 90) (hmk : ∀ j, ∃ m : Int, (hs.getD j z0).2 = .int .u16 m) (hn : ns.length ≤ 1000) (hn2 : ∀ n ∈ ns, n ≤ 1000) :
  Calls Try.prog 61 #[.pointer (some ⟨gB, 0, none⟩)] w fun e w' => e = .returned (.bool true) ∧ St c (bkB gB vl vout :: bkH vl hs :: bkP hs :: bkO vout ns.length vos :: bkM vos (ns.map fun n => List.replicate n [9]) :: R) w' := by
 obtain ⟨aoL, capL, rfl, -, -, -, -⟩ := hS.swap.rowShape
 obtain ⟨aoO, capO, rfl, -, -, -, -⟩ := hS.rot4.rowShape
 have HS := Lib.hid hS
 have HLEN := Lib.hid hlen
 have HMK := Lib.hid hmk
 have HN2 := Lib.hid hn2
 clear hS hlen hmk hn2
 go_enter Try.func61, Try.ntmps61
 go_wp2_with fail
 go_loopw [3] (fun v w' => ∃ (i : Nat), v = .int .i64 (i : Nat) ∧ i ≤ hs.length ∧ Hid (St c (bkB gB (.slice aoL hs.length capL) (.slice aoO ns.length capO) :: bkH (.slice aoL hs.length capL) hs :: bkP hs :: bkO (.slice aoO ns.length capO) ns.length vos :: bkM vos (ns.map fun n => List.replicate n [9]) :: R) w')) (fun v _ => hs.length - (intOf v).toNat)
 case atStart => exact ⟨0, rfl, by omega, HS⟩
 case round =>
  obtain ⟨i, rfl, hi, hS⟩ := hrel
  clear HS
  have b0 : wr.cell? ⟨gB, 0, none⟩ = some (.slice aoL hs.length capL) := St.cells_mem hS.out mm0 0
  by_cases hil : i < hs.length
  ·obtain ⟨gL, rfl, -, -, -⟩ := heldAt hS.out.swap i hil
   obtain ⟨m, hm⟩ := HMK.out i
   have hln := HLEN.out i
   have hmem : hs.getD i z0 ∈ hs := getD_mem0 _ _ _ hil
   obtain ⟨⟨v, mv⟩, hp⟩ : ∃ p, hs.getD i z0 = p := ⟨_, rfl⟩
   rw [hp] at hm hln hmem
   simp only at hm
   subst hm
   obtain ⟨aoK, nK, capK, rfl, hnc, hcm, hnn, -⟩ := hS.out.rot3.poolAt hmem
   have hln : nK ≤ 134217728 + 90 := hln
   have HMEM := Lib.hid hmem
   have HF : Hid (∀ w' R', St c (bkH (.slice (some ⟨gL, 0, none⟩) hs.length capL) hs :: R') w' → w'.cell? ⟨gL, i * 2, none⟩ = some (.slice aoK nK capK) ∧ w'.cell? ⟨gL, i * 2 + 1, none⟩ = some (.int .u16 m)) := by
    intro w' R' h
    obtain ⟨g, e1, h1, h2, -⟩ := heldAt h i hil
    cases e1
    rw [hp] at h1 h2
    exact ⟨h1, h2⟩
   clear hp hmem hnc hcm
   go_wp2_with fail
   clear b0
   go_loopw [4] (fun v w' => ∃ (k : Nat), v = .int .i64 (k : Nat) ∧ k ≤ nK ∧ Hid (St c (bkB gB (.slice (some ⟨gL, 0, none⟩) hs.length capL) (.slice aoO ns.length capO) :: bkH (.slice (some ⟨gL, 0, none⟩) hs.length capL) hs :: bkP hs :: bkO (.slice aoO ns.length capO) ns.length vos :: bkM vos (ns.map fun n => List.replicate n [9]) :: R) w')) (fun v _ => nK - (intOf v).toNat)
   case atStart => exact ⟨0, rfl, by omega, hS⟩
   case round =>
    obtain ⟨k, rfl, hk, hS⟩ := hrel
    have b0 : wr.cell? ⟨gB, 0, none⟩ = some (.slice (some ⟨gL, 0, none⟩) hs.length capL) := St.cells_mem hS.out mm0 0
    obtain ⟨l0, l1⟩ := HF.out _ _ hS.out.swap
    by_cases hkl : k < nK
    ·have haK : ∃ gK, aoK = some ⟨gK, 0, none⟩ := by
      obtain ⟨ao', n', cap', he, -, -, hno, hso⟩ := hS.out.rot3.poolAt HMEM.out
      simp only [Value.slice.injEq] at he
      obtain ⟨rfl, rfl, rfl⟩ := he
      match aoK, hno, hso with
      | none, hno, _ => exact absurd (hno rfl).1 (by omega)
      | some ⟨b, o, s⟩, _, hso =>
       obtain ⟨h1, h2, -⟩ := hso _ rfl
       simp only at h1 h2
       subst h1; subst h2
       exact ⟨b, rfl⟩
     obtain ⟨gK, rfl⟩ := haK
     have HG : Hid (∀ w' R', St c (bkP hs :: R') w' → w'.cell? ⟨gK, k, none⟩ = some (.int .u16 m)) := by
      intro w' R' h
      obtain ⟨ao', n', cap', he, -, -, -, hso⟩ := St.poolAt h HMEM.out
      simp only [Value.slice.injEq] at he
      obtain ⟨rfl, rfl, rfl⟩ := he
      exact (hso _ rfl).2.2 k hkl
     go_wp2_with fail
     clear b0 l0 l1
     have H0 := Lib.hid hS.out.drew
     clear hS
     have t_m : (m != m) = false := by simp
     refine start_ (n := 20) (S := fun w' => w'.cell? ⟨gB, 0, none⟩ = some (.slice (some ⟨gL, 0, none⟩) hs.length capL) ∧ w'.cell? ⟨gL, i * 2, none⟩ = some (.slice (some ⟨gK, 0, none⟩) nK capK) ∧ w'.cell? ⟨gL, i * 2 + 1, none⟩ = some (.int .u16 m) ∧ w'.cell? ⟨gK, k, none⟩ = some (.int .u16 m)) (ds := []) #[false, false, false, false, false, false, false, false, false, false, false, false, false, false, false, false, false, false, false, false] (by kernel_rfl) rfl rfl ⟨St.cells_mem H0.out mm0 0, (HF.out _ _ H0.out.swap).1, (HF.out _ _ H0.out.swap).2, HG.out _ _ H0.out.rot3⟩ (fun hHeld => ?_)
     refine pu 0 29 #[true, false, false, false, false, false, false, false, false, false, false, false, false, false, false, false, false, false, false, false] ?_
     refine pu 1 30 #[true, true, false, false, false, false, false, false, false, false, false, false, false, false, false, false, false, false, false, false] ?_
     refine pu 2 31 #[true, true, true, false, false, false, false, false, false, false, false, false, false, false, false, false, false, false, false, false] ?_
     refine pu 4 33 #[true, true, true, false, true, false, false, false, false, false, false, false, false, false, false, false, false, false, false, false] ?_
     refine pu 8 37 #[true, true, true, false, true, false, false, false, true, false, false, false, false, false, false, false, false, false, false, false] ?_
     refine pu 11 40 #[true, true, true, false, true, false, false, false, true, false, false, true, false, false, false, false, false, false, false, false] ?_
     refine pu 12 41 #[true, true, true, false, true, false, false, false, true, false, false, true, true, false, false, false, false, false, false, false] ?_
     refine pu 13 42 #[true, true, true, false, true, false, false, false, true, false, false, true, true, true, false, false, false, false, false, false] ?_
     refine pu 15 44 #[true, true, true, false, true, false, false, false, true, false, false, true, true, true, false, true, false, false, false, false] ?_
     refine ta 3 32 #[true, true, true, true, true, false, false, false, true, false, false, true, true, true, false, true, false, false, false, false] hHeld ?_
     refine pu 5 34 #[true, true, true, true, true, true, false, false, true, false, false, true, true, true, false, true, false, false, false, false] ?_
     refine pu 6 35 #[true, true, true, true, true, true, true, false, true, false, false, true, true, true, false, true, false, false, false, false] ?_
     refine ta 7 36 #[true, true, true, true, true, true, true, true, true, false, false, true, true, true, false, true, false, false, false, false] hHeld ?_
     refine pu 9 38 #[true, true, true, true, true, true, true, true, true, true, false, true, true, true, false, true, false, false, false, false] ?_
     refine ta 10 39 #[true, true, true, true, true, true, true, true, true, true, true, true, true, true, false, true, false, false, false, false] hHeld ?_
     refine ta 14 43 #[true, true, true, true, true, true, true, true, true, true, true, true, true, true, true, true, false, false, false, false] hHeld ?_
     refine pu 16 45 #[true, true, true, true, true, true, true, true, true, true, true, true, true, true, true, true, true, false, false, false] ?_
     refine pu 17 46 #[true, true, true, true, true, true, true, true, true, true, true, true, true, true, true, true, true, true, false, false] ?_
     refine ta 18 47 #[true, true, true, true, true, true, true, true, true, true, true, true, true, true, true, true, true, true, true, false] hHeld ?_
     refine pu 19 48 #[true, true, true, true, true, true, true, true, true, true, true, true, true, true, true, true, true, true, true, true] ?_
     refine done_ (by kernel_rfl) ?_
     clear t_m
     go_wp2_with fail
     go_roundw
     case rel => exact ⟨k + 1, by go_num, by omega, H0⟩
     case measure => simp [intOf]; omega
    ·have hkl : k = nK := by omega
     subst hkl
     go_wp2_with fail
     go_roundw
     case rel => exact ⟨i + 1, by go_num, by omega, hS⟩
     case measure => simp [intOf]; omega
  ·have hil : i = hs.length := by omega
   subst hil
   go_wp2_with fail
   clear b0
   go_loopw [5] (fun v w' => ∃ (i : Nat), v = .int .i64 (i : Nat) ∧ i ≤ ns.length ∧ Hid (St c (bkB gB (.slice aoL hs.length capL) (.slice aoO ns.length capO) :: bkH (.slice aoL hs.length capL) hs :: bkP hs :: bkO (.slice aoO ns.length capO) ns.length vos :: bkM vos (ns.map fun n => List.replicate n [9]) :: R) w')) (fun v _ => ns.length - (intOf v).toNat)
   case atStart => exact ⟨0, rfl, by omega, hS⟩
   case round =>
    obtain ⟨i, rfl, hi, hS⟩ := hrel
    have b2 : wr.cell? ⟨gB, 2, none⟩ = some (.slice aoO ns.length capO) := St.cells_mem hS.out mm0 2
    by_cases hil : i < ns.length
    ·obtain ⟨gO, rfl, -, -⟩ := outAt hS.out.rot4 i hil
     have hz : (List.zipWith matU vos (ns.map fun n => List.replicate n [9])).length = ns.length := by rw [List.length_zipWith, List.length_map]; omega
     obtain ⟨vi, hvi⟩ : ∃ q, vos.getD i (.slice none 0 0) = q := ⟨_, rfl⟩
     obtain ⟨n, hnn⟩ : ∃ q, ns.getD i 0 = q := ⟨_, rfl⟩
     have hnb : n ≤ 1000 := by rw [← hnn]; exact HN2.out _ (getD_mem0 _ _ _ hil)
     have HZ : Hid ((List.zipWith matU vos (ns.map fun n => List.replicate n [9]))[i]? = some (matU vi (List.replicate n [9]))) := by
      show _ = _
      rw [List.getElem?_zipWith, List.getElem?_eq_getElem (by omega), List.getElem?_map, List.getElem?_eq_getElem hil]
      simp only [Option.map_some, Option.bind_some, ← hvi, ← hnn, List.getD_eq_getElem?_getD]
      rw [List.getElem?_eq_getElem (show i < vos.length by omega), List.getElem?_eq_getElem hil]
      rfl
     -- what stands at a place of the lists that came out
     have HM : Hid (∀ w' R', St c (bkM vos (ns.map fun n => List.replicate n [9]) :: R') w' → ∃ L R'', St c (matU vi (List.replicate n [9]) :: R'') w' ∧ L = R'') := by
      intro w' R' h
      obtain ⟨hi2, he⟩ := List.getElem?_eq_some_iff.1 HZ.out
      have h2 := St.pick (R := R') h.sepIn i hi2
      rw [he] at h2
      exact ⟨_, _, h2, rfl⟩
     obtain ⟨-, R1, h1, -⟩ := HM.out _ _ hS.out.rot5
     obtain ⟨us, hus, h2⟩ := h1.matOpen
     obtain ⟨aoV, capV, hve, -, -, -, -⟩ := h2.rowShape
     rw [List.length_replicate] at hve
     subst hve
     have HO : Hid (∀ w' R', St c (bkO (.slice (some ⟨gO, 0, none⟩) ns.length capO) ns.length vos :: R') w' → w'.cell? ⟨gO, i, none⟩ = some (.slice aoV n capV)) := by
      intro w' R' h
      obtain ⟨g, e1, h1, -⟩ := outAt h i hil
      cases e1
      rw [hvi] at h1
      exact h1
     have o1 := HO.out _ _ hS.out.rot4
     clear h1 h2 hus R1 hvi hnn hz us
     go_wp2_with fail
     clear b2 o1
     go_loopw [6] (fun v w' => ∃ (k : Nat), v = .int .i64 (k : Nat) ∧ k ≤ n ∧ Hid (St c (bkB gB (.slice aoL hs.length capL) (.slice (some ⟨gO, 0, none⟩) ns.length capO) :: bkH (.slice aoL hs.length capL) hs :: bkP hs :: bkO (.slice (some ⟨gO, 0, none⟩) ns.length capO) ns.length vos :: bkM vos (ns.map fun n => List.replicate n [9]) :: R) w')) (fun v _ => n - (intOf v).toNat)
     case atStart => exact ⟨0, rfl, by omega, hS⟩
     case round =>
      obtain ⟨k, rfl, hk, hS⟩ := hrel
      have b2 : wr.cell? ⟨gB, 2, none⟩ = some (.slice (some ⟨gO, 0, none⟩) ns.length capO) := St.cells_mem hS.out mm0 2
      have o1 := HO.out _ _ hS.out.rot4
      by_cases hkl : k < n
      ·obtain ⟨-, R1, h1, -⟩ := HM.out _ _ hS.out.rot5
       obtain ⟨gV, cp, gI, capI, E, hve, hcI, hcell, hrow, -⟩ := St.matPick h1 k (by rw [List.length_replicate]; exact hkl) (by simp [List.getD_eq_getElem?_getD, hkl])
       have hg9 : (List.replicate n [(9 : Int)]).getD k [] = [9] := by simp [List.getD_eq_getElem?_getD, hkl]
       rw [hg9] at hcI hcell hrow
       simp only [List.length_replicate, Value.slice.injEq] at hve
       obtain ⟨rfl, -, rfl⟩ := hve
       obtain ⟨g', cap', he, -, -, hc9, -⟩ := hrow.rowAt (by simp)
       simp only [Value.slice.injEq, Option.some.injEq, Addr.mk.injEq, and_true, true_and] at he
       obtain ⟨rfl, -⟩ := he
       have v9 : wr.cell? ⟨gI, 0, none⟩ = some (.int .u16 9) := hc9 0 (by simp)
       have i9 : wr.cell? ⟨gV, k, none⟩ = some (.slice (some ⟨gI, 0, none⟩) 1 capI) := hcell
       clear hrow hcell hc9 h1 hg9
       go_wp2_with fail
       go_roundw
       case rel => exact ⟨k + 1, by go_num, by omega, hS⟩
       case measure => simp [intOf]; omega
      ·have hkl : k = n := by omega
       subst hkl
       go_wp2_with fail
       go_roundw
       case rel => exact ⟨i + 1, by go_num, by omega, hS⟩
       case measure => simp [intOf]; omega
    ·have hil : i = ns.length := by omega
     subst hil
     go_wp2_with fail
     go_ret
     exact ⟨rfl, hS.out⟩
end Go.Proofs.Ytdoikehkibefpaa
