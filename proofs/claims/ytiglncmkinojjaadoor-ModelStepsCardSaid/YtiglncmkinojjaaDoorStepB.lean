import Derived.Test.YtiglncmkinojjaaDoorStepA
/-! The refusals of both New; a pair: a model and the document's; begins. -/
namespace Go.Proofs.YtiglncmkinojjaaDoor
set_option linter.unusedSimpArgs false
set_option linter.unusedVariables false
open Go Go.RowKit

section
variable {c : Ctx} {R : List HP} {w : World} {α β : Type}
theorem take_mapG {α : Type} (z : α) : ∀ (n : Nat) (L : List α), n ≤ L.length → L.take n = (List.range n).map (fun i => L.getD i z) := by
  intro n L h
  apply List.ext_getElem
  · simp; omega
  · intro i h1 h2
    simp at h1
    simp [List.getD_eq_getElem?_getD, List.getElem?_eq_getElem (show i < L.length by omega)]
/-- The first n in another order. -/
theorem St.reo {L : List HP} (h : St c L w) (n : Nat) (p : List Nat) (hp : p.Perm (List.range n)) (hn : n ≤ L.length := by simp only [List.length_cons, List.map_cons, List.map_nil, List.cons_append, List.nil_append, List.drop_succ_cons, List.drop_zero]; omega) : St c (p.map (fun i => L.getD i emp) ++ L.drop n) w := by
  refine h.perm ?_
  have e : L.Perm (L.take n ++ L.drop n) := by rw [List.take_append_drop]
  rw [take_mapG emp n L hn] at e
  exact e.trans ((hp.map _).symm.append_right _)

end

theorem results_cell_row2 {P : Program} {fn : Func} {p u : Tmp} {ty : TypeId} (h : fn.results = #[.cell p ty, .tmp u]) (tmps : Array Value) (w : World) (g : Nat) (t : TypeId) (cs : Array Value) (fr : Nat × Nat) (d : TypeDesc)
    (hp : tmps.getD p undef = .pointer (some ⟨g, 0, none⟩)) (hg : w.heap[g]? = some (.cells cs t fr))
    (hu : P.underlying ty = some d) (hd : (match d with | .struct _ | .array _ _ => true | _ => false) = true) (hi : (P.info? ty).map (·.size) = some cs.size) :
    (results fn tmps).run P w = .ok (.tuple #[.agg cs, tmps.getD u undef]) w := by
  have hp' : tmps[p]?.getD undef = .pointer (some ⟨g, 0, none⟩) := by simpa using hp
  simp [results, h, hp', asAddr, run_loadVar_row w g t ty cs fr d hg hu hd hi]

theorem New_dep (d t : Int) (w : World) (h1 : d ≠ 10) (h2 : d ≠ 12) :
    Calls Tryd.prog 24 #[.int .i64 d, .int .i64 t] w fun e' w' => e' = .returned (.tuple #[.pointer none, .int .i64 91]) ∧ w' = w := by
  have t1 : (d == 10) = false := by simpa using h1
  have t2 : (d == 12) = false := by simpa using h2
  go_enter Tryd.func24, Tryd.ntmps24
  go_wp2_with fail
  go_ret2
  exact ⟨rfl, rfl⟩
theorem New_tol (d t : Int) (w : World) (hd : d = 10 ∨ d = 12) (ht : t < 0 ∨ 63 < t) :
    Calls Tryd.prog 24 #[.int .i64 d, .int .i64 t] w fun e' w' => e' = .returned (.tuple #[.pointer none, .int .i64 92]) ∧ w' = w := by
  rcases hd with rfl | rfl <;> rcases ht with ht | ht
  all_goals
    have ht0 : decide (t < 0) = false ∨ t < 0 := by first | exact .inr ht | exact .inl (decide_eq_false (by omega))
    clear ht0
    go_enter Tryd.func24, Tryd.ntmps24
    go_wp2_with fail
    all_goals
      go_ret2
      exact ⟨rfl, rfl⟩
theorem rNew_dep (d t : Int) (w : World) (h1 : d ≠ 10) (h2 : d ≠ 12) :
    Calls Tryd.prog 30 #[.int .i64 d, .int .i64 t] w fun e' w' => e' = .returned (.tuple #[.pointer none, .int .i64 91]) ∧ w' = w := by
  have t1 : (d != 10) = true := by simpa using h1
  have t2 : (d != 12) = true := by simpa using h2
  go_enter Tryd.func30, Tryd.ntmps30
  go_wp2_with fail
  go_ret2
  exact ⟨rfl, rfl⟩
theorem rNew_tol (d t : Int) (w : World) (hd : d = 10 ∨ d = 12) (ht : t < 0 ∨ 63 < t) :
    Calls Tryd.prog 30 #[.int .i64 d, .int .i64 t] w fun e' w' => e' = .returned (.tuple #[.pointer none, .int .i64 92]) ∧ w' = w := by
  rcases hd with rfl | rfl <;> rcases ht with ht | ht
  all_goals
    go_enter Tryd.func30, Tryd.ntmps30
    go_wp2_with fail
    all_goals
      go_ret2
      exact ⟨rfl, rfl⟩

/-- A pair as it lies. -/
structure PD where
  g : Nat
  gr : Nat
  gL : Nat
  cp : Nat
  dep : Int
  M : Mo
def pairH : Option PD → HP
  | none => emp
  | some d => (mdl d.g d.M).star ((rhd d.gr d.dep d.M.d (.slice (some ⟨d.gL, 0, none⟩) 365 d.cp)).star (rtb d.gL d.cp d.M))
def pA : Option PD → Option Addr
  | none => none
  | some d => some ⟨d.g, 0, none⟩
def qA : Option PD → Option Addr
  | none => none
  | some d => some ⟨d.gr, 0, none⟩
def PIs (d : PD) : Prop := RIs d.dep d.M ∧ ∀ s ∈ d.M.st, Inv s
def PAll (o : Option PD) : Prop := ∀ d, o = some d → PIs d
theorem St.pairOpen {c : Ctx} {R : List HP} {w : World} {g gr gL cp : Nat} {dep : Int} {M : Mo} (h : St c (pairH (some ⟨g, gr, gL, cp, dep, M⟩) :: R) w) : St c (mdl g M :: rhd gr dep M.d (.slice (some ⟨gL, 0, none⟩) 365 cp) :: rtb gL cp M :: R) w :=
  (St.star (St.swap (St.star h))).perm (by exact ((List.Perm.cons _ (.swap ..)).trans (.swap ..)).trans (.refl _))
theorem St.pairShut {c : Ctx} {R : List HP} {w : World} {g gr gL cp : Nat} {dep : Int} {M : Mo} (h : St c (mdl g M :: rhd gr dep M.d (.slice (some ⟨gL, 0, none⟩) 365 cp) :: rtb gL cp M :: R) w) : St c (pairH (some ⟨g, gr, gL, cp, dep, M⟩) :: R) w :=
  St.unstar (St.swap (St.unstar h.back3))
theorem ris10 {t : Int} {n : Nat} (h0 : 0 ≤ t) (h1 : t ≤ 63) (hw : Wides (newMo 1023 t 6 19 72 n).span n) : RIs 10 (newMo 1023 t 6 19 72 n) :=
  ⟨newMo_fits _ _ _ _ _ _ (.inl rfl) h0 h1 hw, .inl ⟨rfl, rfl⟩, rfl, (by show Wides _ (n : Int).toNat; rw [Int.toNat_natCast]; exact hw), rfl, rfl, rfl⟩
theorem ris12 {t : Int} {n : Nat} (h0 : 0 ≤ t) (h1 : t ≤ 63) (hw : Wides (newMo 4095 t 18 67 276 n).span n) : RIs 12 (newMo 4095 t 18 67 276 n) :=
  ⟨newMo_fits _ _ _ _ _ _ (.inr rfl) h0 h1 hw, .inr ⟨rfl, rfl⟩, rfl, (by show Wides _ (n : Int).toNat; rw [Int.toNat_natCast]; exact hw), rfl, rfl, rfl⟩
theorem begins_ok (W : World) (hT : Tab W) (l : List HP) (d t : Int) (w : World) (hS : St (top W) l w) :
    Calls Tryd.prog 19 #[.int .i64 d, .int .i64 t] w fun e' w' => ∃ o, e' = .returned (.tuple #[.agg #[.pointer (pA o), .pointer (qA o)], .bool true]) ∧ Hid (PAll o) ∧ St (top W) (pairH o :: l) w' := by
  have HT := Lib.hid hT
  have H0 : Hid (St (top W) (blk w.heap.size [.pointer none, .pointer none] 46 :: l) (w.alloc (.cells #[.pointer none, .pointer none] 46))) := Lib.hid (hS.alloc _ _)
  clear hS hT
  by_cases hd : d = 10 ∨ d = 12
  · by_cases ht : 0 ≤ t ∧ t ≤ 63
    · obtain ⟨ht0, ht1⟩ := ht
      rcases hd with rfl | rfl
      · have HT0 := Lib.hid ht0
        have HT1 := Lib.hid ht1
        go_enter Tryd.func19, Tryd.ntmps19
        go_wp2_with fail
        refine (New10 W HT.out _ t _ H0.out ht0 ht1).mono ?_
        rintro e w1 ⟨g, n, rfl, hW, hS1⟩
        simp only []
        have HR := Lib.hid (ris10 ht0 ht1 hW.out)
        have HI := Lib.hid (madeMo_inv 0 t n HR.out.fits)
        have HQ : Hid ((newMo 1023 t 6 19 72 n).st = List.replicate 365 (if 2 < ((newMo 1023 t 6 19 72 n).span + 32) / 64 then ((newMo 1023 t 6 19 72 n).span + 32) / 64 else 2, 0, 0, 1)) := Lib.hid rfl
        have HDD : Hid ((newMo 1023 t 6 19 72 n).d = t) := Lib.hid rfl
        have H1 := Lib.hid hS1
        clear hS1 hW H0
        obtain ⟨M, hMM⟩ : ∃ M, newMo 1023 t 6 19 72 n = M := ⟨_, rfl⟩
        replace HR : Hid (RIs 10 M) := by rw [← hMM]; exact HR
        replace HI : Hid (∀ s ∈ M.st, Inv s) := by rw [← hMM]; exact HI
        rw [hMM] at HQ HDD H1
        clear hMM
        go_wp2_with fail
        obtain rfl := HDD.out
        refine (rNew_ok (top W) _ 10 _ M _ H1.out HR.out HQ.out rfl).mono ?_
        rintro e w2 ⟨gr, gL, cp, rfl, hS2⟩
        simp only []
        have H2 := Lib.hid (St.reo hS2 4 [3, 2, 0, 1] (by decide))
        simp only [List.map_cons, List.map_nil, List.getD_cons_zero, List.getD_cons_succ, List.cons_append, List.nil_append, List.drop_succ_cons, List.drop_zero] at H2
        clear hS2 H1
        have z0 := St.frozen H2.out 0
        have z1 := St.frozen H2.out 1
        have c0 := St.cell H2.out 0
        have c1 := St.cell H2.out 1
        simp only [List.getElem?_cons_zero, List.getElem?_cons_succ] at c0 c1
        have H3 := Lib.hid (St.setCell (St.setCell H2.out 0 (.pointer (some ⟨g, 0, none⟩))) 1 (.pointer (some ⟨gr, 0, none⟩)))
        clear H2
        go_wp2_with fail
        exact bodyPost_ret (results_cell_row2 rfl _ _ w.heap.size 46 #[.pointer (some ⟨g, 0, none⟩), .pointer (some ⟨gr, 0, none⟩)] (0, 0) _ rfl H3.out.blk_at Tryd.underlying46 rfl (by kernel_rfl)) rfl ⟨some ⟨g, gr, gL, cp, 10, M⟩, rfl, Lib.hid (fun d h => by cases h; exact ⟨HR.out, HI.out⟩), St.pairShut H3.out.drop⟩
      · have HT0 := Lib.hid ht0
        have HT1 := Lib.hid ht1
        go_enter Tryd.func19, Tryd.ntmps19
        go_wp2_with fail
        refine (New12 W HT.out _ t _ H0.out ht0 ht1).mono ?_
        rintro e w1 ⟨g, n, rfl, hW, hS1⟩
        simp only []
        have HR := Lib.hid (ris12 ht0 ht1 hW.out)
        have HI := Lib.hid (madeMo_inv 1 t n HR.out.fits)
        have HQ : Hid ((newMo 4095 t 18 67 276 n).st = List.replicate 365 (if 2 < ((newMo 4095 t 18 67 276 n).span + 32) / 64 then ((newMo 4095 t 18 67 276 n).span + 32) / 64 else 2, 0, 0, 1)) := Lib.hid rfl
        have HDD : Hid ((newMo 4095 t 18 67 276 n).d = t) := Lib.hid rfl
        have H1 := Lib.hid hS1
        clear hS1 hW H0
        obtain ⟨M, hMM⟩ : ∃ M, newMo 4095 t 18 67 276 n = M := ⟨_, rfl⟩
        replace HR : Hid (RIs 12 M) := by rw [← hMM]; exact HR
        replace HI : Hid (∀ s ∈ M.st, Inv s) := by rw [← hMM]; exact HI
        rw [hMM] at HQ HDD H1
        clear hMM
        go_wp2_with fail
        obtain rfl := HDD.out
        refine (rNew_ok (top W) _ 12 _ M _ H1.out HR.out HQ.out rfl).mono ?_
        rintro e w2 ⟨gr, gL, cp, rfl, hS2⟩
        simp only []
        have H2 := Lib.hid (St.reo hS2 4 [3, 2, 0, 1] (by decide))
        simp only [List.map_cons, List.map_nil, List.getD_cons_zero, List.getD_cons_succ, List.cons_append, List.nil_append, List.drop_succ_cons, List.drop_zero] at H2
        clear hS2 H1
        have z0 := St.frozen H2.out 0
        have z1 := St.frozen H2.out 1
        have c0 := St.cell H2.out 0
        have c1 := St.cell H2.out 1
        simp only [List.getElem?_cons_zero, List.getElem?_cons_succ] at c0 c1
        have H3 := Lib.hid (St.setCell (St.setCell H2.out 0 (.pointer (some ⟨g, 0, none⟩))) 1 (.pointer (some ⟨gr, 0, none⟩)))
        clear H2
        go_wp2_with fail
        exact bodyPost_ret (results_cell_row2 rfl _ _ w.heap.size 46 #[.pointer (some ⟨g, 0, none⟩), .pointer (some ⟨gr, 0, none⟩)] (0, 0) _ rfl H3.out.blk_at Tryd.underlying46 rfl (by kernel_rfl)) rfl ⟨some ⟨g, gr, gL, cp, 12, M⟩, rfl, Lib.hid (fun d h => by cases h; exact ⟨HR.out, HI.out⟩), St.pairShut H3.out.drop⟩
    · have HD := Lib.hid hd
      have HB : Hid (t < 0 ∨ 63 < t) := Lib.hid (by omega)
      clear hd ht
      go_enter Tryd.func19, Tryd.ntmps19
      go_wp2_with (first
        | (go_at_call 24; go_must (with_reducible refine (New_tol d t _ HD.out HB.out).mono ?_); rintro e w1 ⟨rfl, rfl⟩; simp only [])
        | (go_at_call 30; go_must (with_reducible refine (rNew_tol d t _ HD.out HB.out).mono ?_); rintro e w1 ⟨rfl, rfl⟩; simp only []))
      exact bodyPost_ret (results_cell_row2 rfl _ _ w.heap.size 46 #[.pointer none, .pointer none] (0, 0) _ rfl H0.out.blk_at Tryd.underlying46 rfl (by kernel_rfl)) rfl ⟨none, rfl, Lib.hid (fun d h => by cases h), H0.out.drop.add trivial⟩
  · have HA : Hid (d ≠ 10) := Lib.hid (by omega)
    have HB : Hid (d ≠ 12) := Lib.hid (by omega)
    clear hd
    go_enter Tryd.func19, Tryd.ntmps19
    go_wp2_with (first
      | (go_at_call 24; go_must (with_reducible refine (New_dep d t _ HA.out HB.out).mono ?_); rintro e w1 ⟨rfl, rfl⟩; simp only [])
      | (go_at_call 30; go_must (with_reducible refine (rNew_dep d t _ HA.out HB.out).mono ?_); rintro e w1 ⟨rfl, rfl⟩; simp only []))
    exact bodyPost_ret (results_cell_row2 rfl _ _ w.heap.size 46 #[.pointer none, .pointer none] (0, 0) _ rfl H0.out.blk_at Tryd.underlying46 rfl (by kernel_rfl)) rfl ⟨none, rfl, Lib.hid (fun d h => by cases h), H0.out.drop.add trivial⟩
end Go.Proofs.YtiglncmkinojjaaDoor
