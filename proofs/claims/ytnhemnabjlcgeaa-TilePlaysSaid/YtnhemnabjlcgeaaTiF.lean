import Derived.Test.YtnhemnabjlcgeaaTiE
/-! Tiles: awake. -/
namespace Go.Proofs.Ytnhemnabjlcgeaa
set_option linter.unusedSimpArgs false
set_option linter.unusedVariables false
open Go Go.RowKit Go.Shelf
attribute [local go_sem] Oper.semAt_some

theorem KeepG.set {G : Nat → Prop} {b o : Nat} {A : World} {v : Value} (hb : G b) : KeepG G A (A.setCell ⟨b, o, none⟩ v) :=
  ⟨rfl, rfl, rfl, by simp, fun k _ hk => Below.heap_setCell _ _ _ _ (fun e => hk (by have : k = b := e; rw [this]; exact hb))⟩

theorem run_equalIn_func_nil {P : Program} (w : World) (d : Nat) (t : TypeId) {a b : Array TypeId} {c : Bool} (h : P.underlying t = some (.func a b c)) (f : Fn) (x y : Array Value) :
    (Op.equalIn (d + 1) t (.func f x y) .nilFunc).run P w = .ok false w := by
  simp [Op.equalIn, run_underlying h]
theorem run_eql_func_nil {P : Program} (t : TypeId) {a b : Array TypeId} {c : Bool} (h : P.underlying t = some (.func a b c)) (w : World) (f : Fn) (x y : Array Value) :
    (Go.binOp .eql t (Value.func f x y) Value.nilFunc).run P w = Result.ok (Value.bool false) w := by
  simp only [Go.binOp]
  simp [Op.equal, Op.maxDepth, run_equalIn_func_nil w 9999 t h]

def g0 : Gd := ⟨50, 20, 10, false, 16, 16⟩
def q0 : Rq := ⟨15, 0, 2, 17⟩
theorem g0_ok : g0.Ok := ⟨by decide, by decide, by decide, by decide, by decide, by decide, by decide, by decide, by decide⟩
theorem q0_in : q0.In g0 := ⟨by decide, by decide, by decide, by decide, by decide, by decide⟩
theorem g0_shape : okShape g0.W g0.H g0.D g0.A := by decide
def dig : List Nat → Int
  | [] => 0
  | [0] => 0
  | [0, 1] => 1
  | [0, 1, 4] => 14
  | _ => 145
theorem at_x {x : Nat} (hx : x < 8) (hm : meetsB g0 q0 x = true) : x = 0 ∨ x = 1 ∨ x = 4 ∨ x = 5 := by
  match x, hx with
  | 0, _ => exact .inl rfl
  | 1, _ => exact .inr (.inl rfl)
  | 2, _ => exact absurd hm (by decide)
  | 3, _ => exact absurd hm (by decide)
  | 4, _ => exact .inr (.inr (.inl rfl))
  | 5, _ => exact .inr (.inr (.inr rfl))
  | 6, _ => exact absurd hm (by decide)
  | 7, _ => exact absurd hm (by decide)

set_option maxRecDepth 100000 in
set_option maxHeartbeats 4000000 in
theorem awake_in (w : World) : CallsIn Fence.wide 6 Try.prog 7 #[] w fun e w' => e = .returned (.bool true) ∧ Below w.heap.size w w' := by
  refine callsIn_of_wp_marks Try.func7 rfl trivial ?_ rfl
  simp only [Try.ntmps7, List.size_toArray, List.length_cons, List.length_nil, Nat.reduceAdd, Nat.reduceSub, Array.replicate_succ, Array.replicate_zero, List.push_toArray, List.append_toArray, List.nil_append, List.cons_append]
  have hnil := run_eql_func_nil (P := Try.prog) 37 Try.underlying37
  gi_wp2_with (first
    | (refine ⟨trivial, ?_⟩; gi_at_call 9; refine (callsIn_wide.2 (new_ok g0 _ g0_ok g0_shape)).mono ?_; rintro e w1 ⟨b, rfl, hb, hG, hB⟩; have G1 := Lib.hid hG; have B1 := Lib.hid hB; clear hG hB hb)
    | (refine ⟨trivial, ?_⟩; gi_at_call 15; refine (callsIn_wide.2 (Rect_ok b g0 7 _ G1.out g0_ok (by decide) (by decide))).mono ?_; rintro e w2 ⟨rfl, hB⟩; have G2 := Lib.hid ((G1.out.below hB).alloc (.cells #[.int .i64 (g0.x 7), .int .i64 (g0.y 7), .int .i64 (g0.rw 7), .int .i64 (g0.rh 7)] 26)); have R2 := Lib.hid (St.alloc (St.top w2) [.int .i64 (g0.x 7), .int .i64 (g0.y 7), .int .i64 (g0.rw 7), .int .i64 (g0.rh 7)] 26); have B2 := Lib.hid hB; clear hB)
    | (refine ⟨trivial, ?_⟩; gi_at_call 11; refine (callsIn_wide.2 (touched_ok b g0 q0 _ G2.out g0_ok q0_in)).mono ?_; rintro e w3 ⟨s, r, b2, rfl, hT, hB⟩; have HT := Lib.hid hT; have B3 := Lib.hid hB; clear hT hB))
  have y0 : (w3.alloc (.cells #[.int .i64 0] 3)).cell? ⟨w3.heap.size, 0, none⟩ = some (.int .i64 0) := St.cell (St.alloc (St.top w3) [.int .i64 0] 3) 0
  have z0 : (w3.alloc (.cells #[.int .i64 0] 3)).frozen? ⟨w3.heap.size, 0, none⟩ = false := St.frozen (St.alloc (St.top w3) [.int .i64 0] 3) 0
  have hB := ((Below.refl w3.heap.size w3).alloc (Nat.le_refl _) (.cells #[.int .i64 0] 3))
  have hw : (w3.alloc (.cells #[.int .i64 0] 3)).heap.size = w3.heap.size + 1 := by simp
  obtain ⟨lt1, lt2, lt3⟩ := HT.out.lt
  generalize ha : Act.mk _ _ = a0
  have ga : a0.eval (.tmp 37) = .func (.func 24) #[] #[.pointer (some ⟨s, 0, none⟩), .pointer (some ⟨r, 0, none⟩)] := by rw [← ha]; rfl
  refine range_law (gf := 24) (lb := #[.pointer (some ⟨s, 0, none⟩), .pointer (some ⟨r, 0, none⟩)]) ga (enters_of Try.func24 (by kernel_rfl) rfl) (t2_tells s r b2 8 g0 q0 g0_ok q0_in rfl _ (HT.out.of_below hB lt1 lt2 lt3)) (fun k => k = w3.heap.size) (fun k e => ⟨fun h => by omega, by omega⟩) (fun k e => by omega) (fun _ => rfl)
    (fun pre X => Below w3.heap.size w3 X ∧ w3.heap.size + 1 ≤ X.heap.size ∧ X.cell? ⟨w3.heap.size, 0, none⟩ = some (.int .i64 (dig pre)) ∧ X.frozen? ⟨w3.heap.size, 0, none⟩ = false)
    (fun _ _ _ => False)
    (fun pre A B h hb => ⟨h.1.trans (hb.mono (by omega)), Nat.le_trans h.2.1 hb.size, (hb.cell (p := ⟨w3.heap.size, 0, none⟩) (by show w3.heap.size < _; omega)).trans h.2.2.1, (hb.frozen (p := ⟨w3.heap.size, 0, none⟩) (by show w3.heap.size < _; omega)).trans h.2.2.2⟩)
    (fun _ _ _ _ h _ => h)
    ⟨hB, by omega, y0, z0⟩
    (fun pre x a' X => (Below w3.heap.size w3 X ∧ w3.heap.size + 1 ≤ X.heap.size ∧ X.cell? ⟨w3.heap.size, 0, none⟩ = some (.int .i64 (dig pre)) ∧ X.frozen? ⟨w3.heap.size, 0, none⟩ = false) ∧ a' = { tmps := (a0.tmps.setIfInBounds 38 (.int .i64 (x : Int))).setIfInBounds 8 (.int .i64 (x : Int)), defers := [] })
    (fun pre x a' _ A B row ⟨h, e⟩ hg hr => by
      have hr2 : ∀ r, row = some r → ∃ o : Obj, A.heap[r]? = some o ∧ o.isCells = false := fun r e => (hr r e).2
      exact ⟨⟨h.1.trans (own_grown (by omega) hg (fun r e => by have := (hr r e).1; omega)), Nat.le_trans h.2.1 hg.size, own_cell hg hr2 h.2.2.1, (frozen_kept h.2.2.1 hg hr2).trans h.2.2.2⟩, e⟩)
    ?assign ?body ?done ?stop
  case assign =>
    rintro l2 pre x X K hi hlen hsz hK
    subst ha
    gi_wp2
    exact hK _ _ (KeepG.refl _ _) ⟨hi, rfl⟩
  case body =>
    rintro l2 pre x a' X ⟨⟨i1, i2, i3, i4⟩, rfl⟩ ⟨rfl, hx, hm⟩ hsz
    subst ha
    have I1 := Lib.hid i1
    clear i1
    rcases at_x hx hm with rfl | rfl | rfl | rfl
    all_goals
      first
        | (have e0 : dig ((List.range 0).filter (meetsB g0 q0)) = 0 := by decide
           have E1 : Hid (dig ((List.range 0).filter (meetsB g0 q0) ++ [0]) = 0) := Lib.hid (by decide)
           rw [e0] at i3
           clear e0 hm hx
           gi_wp2
           exact ⟨KeepG.set rfl, I1.out.setCell (p := ⟨w3.heap.size, 0, none⟩) (Nat.le_refl _) _, by simpa using i2, by rw [E1.out]; exact World.cell?_setCell_same' _ _ _ (by rw [i3]; rfl), by rw [World.frozen?_setCell]; exact i4⟩)
        | (have e0 : dig ((List.range 1).filter (meetsB g0 q0)) = 0 := by decide
           have E1 : Hid (dig ((List.range 1).filter (meetsB g0 q0) ++ [1]) = 1) := Lib.hid (by decide)
           rw [e0] at i3
           clear e0 hm hx
           gi_wp2
           exact ⟨KeepG.set rfl, I1.out.setCell (p := ⟨w3.heap.size, 0, none⟩) (Nat.le_refl _) _, by simpa using i2, by rw [E1.out]; exact World.cell?_setCell_same' _ _ _ (by rw [i3]; rfl), by rw [World.frozen?_setCell]; exact i4⟩)
        | (have e0 : dig ((List.range 4).filter (meetsB g0 q0)) = 1 := by decide
           have E1 : Hid (dig ((List.range 4).filter (meetsB g0 q0) ++ [4]) = 14) := Lib.hid (by decide)
           rw [e0] at i3
           clear e0 hm hx
           gi_wp2
           exact ⟨KeepG.set rfl, I1.out.setCell (p := ⟨w3.heap.size, 0, none⟩) (Nat.le_refl _) _, by simpa using i2, by rw [E1.out]; exact World.cell?_setCell_same' _ _ _ (by rw [i3]; rfl), by rw [World.frozen?_setCell]; exact i4⟩)
        | (have e0 : dig ((List.range 5).filter (meetsB g0 q0)) = 14 := by decide
           have E1 : Hid (dig ((List.range 5).filter (meetsB g0 q0) ++ [5]) = 145) := Lib.hid (by decide)
           rw [e0] at i3
           clear e0 hm hx
           gi_wp2
           exact ⟨KeepG.set rfl, I1.out.setCell (p := ⟨w3.heap.size, 0, none⟩) (Nat.le_refl _) _, by simpa using i2, by rw [E1.out]; exact World.cell?_setCell_same' _ _ _ (by rw [i3]; rfl), by rw [World.frozen?_setCell]; exact i4⟩)
  case done =>
    rintro D xs X hD rfl ⟨i1, i2, i3, i4⟩ hd
    subst ha
    rw [show dig ((List.range 8).filter (meetsB g0 q0)) = 145 by decide] at i3
    have sz := B3.out.size
    simp only [World.size_alloc] at sz
    have r0 := (i1.cell (p := ⟨w2.heap.size, 0, none⟩) (show w2.heap.size < _ by omega)).trans ((B3.out.cell (p := ⟨w2.heap.size, 0, none⟩) (show w2.heap.size < _ by simp)).trans (R2.out.cell 0))
    have r1 := (i1.cell (p := ⟨w2.heap.size, 1, none⟩) (show w2.heap.size < _ by omega)).trans ((B3.out.cell (p := ⟨w2.heap.size, 1, none⟩) (show w2.heap.size < _ by simp)).trans (R2.out.cell 1))
    have r2 := (i1.cell (p := ⟨w2.heap.size, 2, none⟩) (show w2.heap.size < _ by omega)).trans ((B3.out.cell (p := ⟨w2.heap.size, 2, none⟩) (show w2.heap.size < _ by simp)).trans (R2.out.cell 2))
    have r3 := (i1.cell (p := ⟨w2.heap.size, 3, none⟩) (show w2.heap.size < _ by omega)).trans ((B3.out.cell (p := ⟨w2.heap.size, 3, none⟩) (show w2.heap.size < _ by simp)).trans (R2.out.cell 3))
    simp only [List.getElem?_cons_zero, List.getElem?_cons_succ] at r0 r1 r2 r3
    rw [show g0.x 7 = 48 by decide] at r0
    rw [show g0.y 7 = 16 by decide] at r1
    rw [show g0.rw 7 = 2 by decide] at r2
    rw [show g0.rh 7 = 4 by decide] at r3
    have gl := G2.out.lt
    simp only [World.size_alloc] at gl
    have GX := Lib.hid ((G2.out.of_below B3.out (by simp; omega)).of_below i1 (by omega))
    have I1 := Lib.hid i1
    clear i1 sz gl
    have n8 : g0.n = 8 := by decide
    gi_wp2
    refine ⟨trivial, ?_⟩
    refine (callsIn_wide.2 (count_ok b g0 _ GX.out g0_ok)).mono ?_
    rintro e w4 ⟨rfl, m, rfl⟩
    gi_wp2
    refine ⟨by simp, .inl ⟨_, _, rfl, run_takeDeferred (show (X.drewN m).heap[D]? = _ from hd), ?_⟩⟩
    have s1 := B1.out.size
    have s2 := B2.out.size
    have s3 := B3.out.size
    have s4 := I1.out.size
    simp only [World.size_alloc] at s3
    refine ⟨_, results_tmp rfl _ _ _, rfl, ?_⟩
    exact ((((B1.out.trans (B2.out.mono s1)).alloc (by omega) _).trans (B3.out.mono (by simp only [World.size_alloc]; omega))).trans (I1.out.mono (by omega))).trans ⟨rfl, rfl, rfl, by simp, fun k hk => World.putObj_heap_other (by omega)⟩
  case stop =>
    rintro D c pre X hD _ h _
    exact h.elim

theorem awake_ok (w : World) : Calls Try.prog 7 #[] w fun e w' => e = .returned (.bool true) ∧ Below w.heap.size w w' := callsIn_wide.1 (awake_in w)
end Go.Proofs.Ytnhemnabjlcgeaa
