import Derived.Test.YtnhemnabjlcgeaaTiD
import Derived.RangeFuncBox
import Derived.Laws.EntriesVeiled
/-! Tiles: Touched: its function value, and what that tells. -/
namespace Go.Proofs.Ytnhemnabjlcgeaa
set_option linter.unusedSimpArgs false
set_option linter.unusedVariables false
open Go Go.RowKit Go.Shelf
attribute [local go_sem] Oper.semAt_some

structure Rq where
  x : Int
  y : Int
  w : Int
  h : Int
def Rq.cells (q : Rq) : Array Value := #[.int .i64 q.x, .int .i64 q.y, .int .i64 q.w, .int .i64 q.h]
structure Rq.In (q : Rq) (g : Gd) : Prop where
  w1 : 1 ≤ q.w
  h1 : 1 ≤ q.h
  x0 : 0 ≤ q.x
  y0 : 0 ≤ q.y
  x1 : q.x ≤ g.W - q.w
  y1 : q.y ≤ g.H - q.h
def meetsB (g : Gd) (q : Rq) (k : Nat) : Bool := decide (g.x k < q.x + q.w) && decide (q.x < g.x k + g.rw k) && decide (g.y k < q.y + q.h) && decide (q.y < g.y k + g.rh k)

theorem meets_ok (a b c d : Int) (q : Rq) (r : Bool) (w : World) (ha : 0 ≤ a ∧ a ≤ 10000) (hb : 0 ≤ b ∧ b ≤ 10000) (hc : 0 ≤ c ∧ c ≤ 10000) (hd : 0 ≤ d ∧ d ≤ 10000) (hx : 0 ≤ q.x ∧ q.x ≤ 10000) (hy : 0 ≤ q.y ∧ q.y ≤ 10000) (hw : 0 ≤ q.w ∧ q.w ≤ 10000) (hh : 0 ≤ q.h ∧ q.h ≤ 10000)
    (hr : (decide (a < q.x + q.w) && decide (q.x < a + c) && decide (b < q.y + q.h) && decide (q.y < b + d)) = r) :
    Calls Try.prog 25 #[.agg #[.int .i64 a, .int .i64 b, .int .i64 c, .int .i64 d], .agg #[.int .i64 q.x, .int .i64 q.y, .int .i64 q.w, .int .i64 q.h]] w fun e w' => e = .returned (.bool r) ∧ Below w.heap.size w w' := by
  have H0 := St.alloc (St.alloc (St.top w) [.int .i64 a, .int .i64 b, .int .i64 c, .int .i64 d] 26) [.int .i64 q.x, .int .i64 q.y, .int .i64 q.w, .int .i64 q.h] 26
  have H := Lib.hid H0
  have f0 := St.cell H0.swap 0
  have f1 := St.cell H0.swap 1
  have f2 := St.cell H0.swap 2
  have f3 := St.cell H0.swap 3
  have p0 := St.cell H0 0
  have p1 := St.cell H0 1
  have p2 := St.cell H0 2
  have p3 := St.cell H0 3
  simp only [List.getElem?_cons_zero, List.getElem?_cons_succ, World.size_alloc] at f0 f1 f2 f3 p0 p1 p2 p3
  obtain ⟨a1, a2⟩ := ha
  obtain ⟨b1, b2⟩ := hb
  obtain ⟨c1, c2⟩ := hc
  obtain ⟨d1, d2⟩ := hd
  obtain ⟨x1, x2⟩ := hx
  obtain ⟨y1, y2⟩ := hy
  obtain ⟨w1, w2⟩ := hw
  obtain ⟨h1, h2⟩ := hh
  have HR := Lib.hid hr
  clear hr H0
  obtain ⟨t1, e1⟩ : ∃ t, decide (a < q.x + q.w) = t := ⟨_, rfl⟩
  obtain ⟨t2, e2⟩ : ∃ t, decide (q.x < a + c) = t := ⟨_, rfl⟩
  obtain ⟨t3, e3⟩ : ∃ t, decide (b < q.y + q.h) = t := ⟨_, rfl⟩
  obtain ⟨t4, e4⟩ : ∃ t, decide (q.y < b + d) = t := ⟨_, rfl⟩
  replace HR : Hid ((t1 && t2 && t3 && t4) = r) := by rw [← e1, ← e2, ← e3, ← e4]; exact HR
  cases t1 <;> cases t2 <;> cases t3
  all_goals
    go_enter Try.func25, Try.ntmps25
    go_wp2_with fail
    go_ret
    exact ⟨by rw [← HR.out]; first | rfl | simp, H.out.below⟩

/-- What Touched lays: the slices' function, the rectangle, the grid's copy. -/
structure TAt (w : World) (s r b : Nat) (g : Gd) (q : Rq) : Prop where
  fs : w.cell? ⟨s, 0, none⟩ = some (.func (.func 26) #[] #[.pointer (some ⟨b, 0, none⟩)])
  r0 : w.cell? ⟨r, 0, none⟩ = some (.int .i64 q.x)
  r1 : w.cell? ⟨r, 1, none⟩ = some (.int .i64 q.y)
  r2 : w.cell? ⟨r, 2, none⟩ = some (.int .i64 q.w)
  r3 : w.cell? ⟨r, 3, none⟩ = some (.int .i64 q.h)
  gr : GAt w b g
theorem TAt.of_below {w w' : World} {s r b n : Nat} {g : Gd} {q : Rq} (h : TAt w s r b g q) (hb : Below n w w') (h1 : s < n) (h2 : r < n) (h3 : b < n) : TAt w' s r b g q :=
  ⟨(hb.cell h1).trans h.fs, (hb.cell h2).trans h.r0, (hb.cell h2).trans h.r1, (hb.cell h2).trans h.r2, (hb.cell h2).trans h.r3, h.gr.of_below hb h3⟩
theorem TAt.keep {w w' : World} {s r b : Nat} {g : Gd} {q : Rq} {G : Nat → Prop} (h : TAt w s r b g q) (hk : KeepG G w w') (h1 : ¬ G s) (h2 : ¬ G r) (h3 : ¬ G b) : TAt w' s r b g q :=
  ⟨hk.cell h1 h.fs, hk.cell h2 h.r0, hk.cell h2 h.r1, hk.cell h2 h.r2, hk.cell h2 h.r3, h.gr.keep hk h3⟩
theorem TAt.lt {w : World} {s r b : Nat} {g : Gd} {q : Rq} (h : TAt w s r b g q) : s < w.heap.size ∧ r < w.heap.size ∧ b < w.heap.size :=
  ⟨World.block_lt_of_cell? w _ h.fs, World.block_lt_of_cell? w _ h.r0, h.gr.lt⟩

theorem touched_ok (b : Nat) (g : Gd) (q : Rq) (w : World) (h : GAt w b g) (hg : g.Ok) (hq : q.In g) :
    Calls Try.prog 11 #[.pointer (some ⟨b, 0, none⟩), .agg #[.int .i64 q.x, .int .i64 q.y, .int .i64 q.w, .int .i64 q.h]] w fun e w' => ∃ s r b2, e = .returned (.tuple #[.func (.func 24) #[] #[.pointer (some ⟨s, 0, none⟩), .pointer (some ⟨r, 0, none⟩)], .int .i64 0]) ∧ TAt w' s r b2 g q ∧ Below w.heap.size w w' := by
  have H := Lib.hid (St.alloc (St.top w) [.int .i64 q.x, .int .i64 q.y, .int .i64 q.w, .int .i64 q.h] 26)
  have GA := Lib.hid (h.alloc (.cells #[.int .i64 q.x, .int .i64 q.y, .int .i64 q.w, .int .i64 q.h] 26))
  obtain ⟨f0, f1, f2, f3, f4, f5, f6, f7⟩ := GA.out
  have p0 := St.cell H.out 0
  have p1 := St.cell H.out 1
  have p2 := St.cell H.out 2
  have p3 := St.cell H.out 3
  simp only [List.getElem?_cons_zero, List.getElem?_cons_succ] at p0 p1 p2 p3
  obtain ⟨q1, q2, q3, q4, q5, q6⟩ := hq
  have W2 := hg.w2
  have H2 := hg.h2
  have t1 : decide (g.W < q.w) = false := decide_eq_false (by omega)
  have t2 : decide (g.H < q.h) = false := decide_eq_false (by omega)
  have t3 : decide (g.W - q.w < q.x) = false := decide_eq_false (by omega)
  have t4 : decide (g.H - q.h < q.y) = false := decide_eq_false (by omega)
  have t5 : decide (q.w < 1) = false := decide_eq_false (by omega)
  have t6 : decide (q.h < 1) = false := decide_eq_false (by omega)
  have t7 : decide (q.x < 0) = false := decide_eq_false (by omega)
  have t8 : decide (q.y < 0) = false := decide_eq_false (by omega)
  have s1 : -9223372036854775808 ≤ g.W - q.w := by omega
  have s2 : g.W - q.w ≤ 9223372036854775807 := by omega
  have s3 : -9223372036854775808 ≤ g.H - q.h := by omega
  have s4 : g.H - q.h ≤ 9223372036854775807 := by omega
  clear h hg
  go_enter Try.func11, Try.ntmps11
  go_wp2_with fail
  go_quiet (fail)
  go_wp2_with fail
  refine (all_ok b g _ (GA.out.drewN nq)).mono ?_
  rintro e w1 ⟨b2, rfl, hb1, hG, hb⟩
  have H2 := Lib.hid ((H.out.drewN nq).of_below hb)
  have G2 := Lib.hid hG
  have HB := Lib.hid hb1
  clear hb hG hb1 H GA f0 f1 f2 f3 f4 f5 f6 f7 p0 p1 p2 p3
  go_wp2_with fail
  go_ret2
  have H3 := St.alloc H2.out [.func (.func 26) #[] #[.pointer (some ⟨b2, 0, none⟩)]] 45
  exact ⟨_, _, b2, rfl, ⟨H3.cell 0, H3.swap.cell 0, H3.swap.cell 1, H3.swap.cell 2, H3.swap.cell 3, G2.out.alloc _⟩, H3.below⟩

theorem filt_snoc (p : Nat → Bool) (pre : List Nat) (x : Nat) : (pre ++ [x]).filter p = if p x then pre.filter p ++ [x] else pre.filter p := by
  rw [List.filter_append, List.filter_cons]
  split <;> simp
theorem own_grown {n : Nat} {W W' : World} {row : Option Nat} (hn : n ≤ W.heap.size) (hg : W.grownBy W' row) (hr : ∀ r, row = some r → n ≤ r) : Below n W W' :=
  ⟨hg.os, hg.tape, hg.output, hg.size, fun k hk => hg.block k (Nat.lt_of_lt_of_le hk hn) fun e => by have := hr k e.symm; omega⟩
theorem own_cell {W W' : World} {row : Option Nat} {b o : Nat} {v : Value} (hg : W.grownBy W' row) (hr : ∀ r, row = some r → ∃ o : Obj, W.heap[r]? = some o ∧ o.isCells = false) (hc : W.cell? ⟨b, o, none⟩ = some v) : W'.cell? ⟨b, o, none⟩ = some v :=
  cell_kept hc hg hr

theorem TAt.below {w w' : World} {s r b : Nat} {g : Gd} {q : Rq} (h : TAt w s r b g q) (hb : Below w.heap.size w w') : TAt w' s r b g q := h.of_below hb h.lt.1 h.lt.2.1 h.lt.2.2
theorem TAt.grown {w w' : World} {s r b : Nat} {g : Gd} {q : Rq} {row : Option Nat} (h : TAt w s r b g q) (hg : w.grownBy w' row) (hr : ∀ r, row = some r → ∃ o : Obj, w.heap[r]? = some o ∧ o.isCells = false) : TAt w' s r b g q :=
  ⟨own_cell hg hr h.fs, own_cell hg hr h.r0, own_cell hg hr h.r1, own_cell hg hr h.r2, own_cell hg hr h.r3, ⟨own_cell hg hr h.gr.f0, own_cell hg hr h.gr.f1, own_cell hg hr h.gr.f2, own_cell hg hr h.gr.f3, own_cell hg hr h.gr.f4, own_cell hg hr h.gr.f5, own_cell hg hr h.gr.f6, own_cell hg hr h.gr.f7⟩⟩
set_option maxRecDepth 100000 in
set_option maxHeartbeats 4000000 in
theorem t2_in (m l s r b2 N : Nat) (G : Nat → Prop) (g : Gd) (q : Rq) (hg : g.Ok) (hq : q.In g) (hN : g.n = (N : Int)) (h1 : ¬ G s) (h2 : ¬ G r) (h3 : ¬ G b2) (J Jx : List Nat → World → Prop) (W : World) (hJ : ∀ s A B, J s A → Below W.heap.size A B → J s B) (hJx : ∀ s A B, Jx s A → Below W.heap.size A B → Jx s B)
    (hY : ∀ pre (x : Nat) W, J pre W → (pre = (List.range x).filter (meetsB g q) ∧ x < N ∧ meetsB g q x = true) → YieldAt Fence.wide 0 Try.prog l #[.int .i64 (x : Int)] W fun e W' =>
      (e = .returned (.bool true) ∧ J (pre ++ [x]) W' ∧ KeepG G W W') ∨ (e = .returned (.bool false) ∧ Jx (pre ++ [x]) W' ∧ KeepG G W W'))
    (hGl : ∀ k, G k → k < W.heap.size) (hT : TAt W s r b2 g q) (h0 : J [] W) :
    CallsIn Fence.wide m Try.prog 24 #[.func (.yield l) #[] #[], .pointer (some ⟨s, 0, none⟩), .pointer (some ⟨r, 0, none⟩)] W fun e W' => (∃ v, e = .returned v) ∧
      ((∃ ys, ys = (List.range N).filter (meetsB g q) ∧ J ys W') ∨ (∃ pre, (∃ k, k ≤ N ∧ pre = (List.range k).filter (meetsB g q)) ∧ Jx pre W')) := by
  have HG := Lib.hid hg
  have HQ := Lib.hid hq
  have HT := Lib.hid hT
  have HJ := Lib.hid hJ
  have HX := Lib.hid hJx
  have HY := Lib.hid hY
  have H0 := Lib.hid h0
  have HN := Lib.hid hN
  have fs := hT.fs
  clear hg hq hT hJ hJx hY h0 hN
  refine callsIn_of_wp_marks Try.func24 rfl trivial ?_ rfl
  simp only [Try.ntmps24, List.size_toArray, List.length_cons, List.length_nil, Nat.reduceAdd, Nat.reduceSub, Array.replicate_succ, Array.replicate_zero, List.push_toArray, List.append_toArray, List.nil_append, List.cons_append]
  have hB := ((Below.refl W.heap.size W).alloc (Nat.le_refl _) (.cells #[.func (.yield l) #[] #[]] 67))
  have fs' := (hB.cell (p := ⟨s, 0, none⟩) HT.out.lt.1).trans fs
  have y0 : (W.alloc (.cells #[.func (.yield l) #[] #[]] 67)).cell? ⟨W.heap.size, 0, none⟩ = some (.func (.yield l) #[] #[]) := St.cell (St.alloc (St.top W) [.func (.yield l) #[] #[]] 67) 0
  gi_wp2
  clear fs fs'
  have hw : (W.alloc (.cells #[.func (.yield l) #[] #[]] 67)).heap.size = W.heap.size + 1 := by simp
  have HT' := Lib.hid (HT.out.below hB)
  have hGl2 := Lib.hid hGl
  have hlt3 := HT.out.lt.2.2
  refine range_law (gf := 26) (lb := #[.pointer (some ⟨b2, 0, none⟩)]) rfl (enters_of Try.func26 (by kernel_rfl) rfl) (all1_tells b2 N g HG.out HN.out _ HT'.out.gr) G (fun k hk => ⟨fun e => h3 (by rw [← e]; exact hk), by have := hGl k hk; omega⟩) (fun k e => by rw [e]; omega) (fun _ => rfl)
    (fun pre X => J (pre.filter (meetsB g q)) X ∧ TAt X s r b2 g q ∧ W.heap.size + 1 ≤ X.heap.size ∧ X.cell? ⟨W.heap.size, 0, none⟩ = some (.func (.yield l) #[] #[]))
    (fun c pre X => c = .ret ∧ Jx (pre.filter (meetsB g q)) X)
    (fun pre A B h hb => ⟨HJ.out _ _ _ h.1 (hb.mono (by omega)), h.2.1.of_below hb (by have := HT.out.lt; omega) (by have := HT.out.lt; omega) (by omega), Nat.le_trans h.2.2.1 hb.size, (hb.cell (p := ⟨W.heap.size, 0, none⟩) (by show W.heap.size < _; omega)).trans h.2.2.2⟩)
    (fun c pre A B h hb => ⟨h.1, HX.out _ _ _ h.2 (hb.mono (by omega))⟩)
    ⟨HJ.out _ _ _ H0.out hB, HT'.out, by omega, y0⟩
    (fun pre x a' X => ∃ Bx, (J (pre.filter (meetsB g q)) X ∧ TAt X s r b2 g q ∧ W.heap.size + 1 ≤ X.heap.size ∧ X.cell? ⟨W.heap.size, 0, none⟩ = some (.func (.yield l) #[] #[])) ∧
      (X.cell? ⟨Bx, 0, none⟩ = some (.int .i64 (g.x x)) ∧ X.cell? ⟨Bx, 1, none⟩ = some (.int .i64 (g.y x)) ∧ X.cell? ⟨Bx, 2, none⟩ = some (.int .i64 (g.rw x)) ∧ X.cell? ⟨Bx, 3, none⟩ = some (.int .i64 (g.rh x))) ∧
      a' = { tmps := #[.func (.yield l) #[] #[], .pointer (some ⟨s, 0, none⟩), .pointer (some ⟨r, 0, none⟩), .pointer (some ⟨W.heap.size, 0, none⟩), .int .i64 (x : Nat), .pointer (some ⟨Bx, 0, none⟩), .func (.func 26) #[] #[.pointer (some ⟨b2, 0, none⟩)], .int .i64 (x : Nat), rectV g x, undef, undef, undef, undef, undef, undef, undef, undef, undef], defers := [] })
    (fun pre x a' _ A B row ⟨Bx, h, hc, ha⟩ hg hr => by
      have hr2 : ∀ r, row = some r → ∃ o : Obj, A.heap[r]? = some o ∧ o.isCells = false := fun r e => (hr r e).2
      have hb : Below W.heap.size A B := own_grown (by omega) hg (fun r e => by have := (hr r e).1; omega)
      exact ⟨Bx, ⟨HJ.out _ _ _ h.1 hb, h.2.1.grown hg hr2, Nat.le_trans h.2.2.1 hg.size, own_cell hg hr2 h.2.2.2⟩, ⟨own_cell hg hr2 hc.1, own_cell hg hr2 hc.2.1, own_cell hg hr2 hc.2.2.1, own_cell hg hr2 hc.2.2.2⟩, ha⟩)
    ?assign ?body ?done ?stop
  case assign =>
    rintro l2 pre x X K ⟨i1, i2, i3, i4⟩ hlen hsz hK
    have I1 := Lib.hid i1
    have I2 := Lib.hid i2
    have I4 := Lib.hid i4
    clear i1 i2 i4
    dsimp only [encA, rectV]
    gi_wp2
    have hb := (Below.refl X.heap.size X).alloc (Nat.le_refl _) (.cells #[.int .i64 (g.x x), .int .i64 (g.y x), .int .i64 (g.rw x), .int .i64 (g.rh x)] 26)
    have hS := St.alloc (St.top X) [.int .i64 (g.x x), .int .i64 (g.y x), .int .i64 (g.rw x), .int .i64 (g.rh x)] 26
    exact hK _ _ (KeepG.of_below hb) ⟨X.heap.size, ⟨HJ.out _ _ _ I1.out (hb.mono (by omega)), I2.out.below hb, by simp; omega, (hb.cell (p := ⟨W.heap.size, 0, none⟩) (show W.heap.size < X.heap.size by omega)).trans I4.out⟩, ⟨hS.cell 0, hS.cell 1, hS.cell 2, hS.cell 3⟩, rfl⟩
  case body =>
    rintro l2 pre x a' X ⟨Bx, ⟨i1, i2, i3, i4⟩, ⟨c0, c1, c2, c3⟩, rfl⟩ ⟨rfl, hx⟩ hsz
    have i2' := i2
    obtain ⟨-, r0, r1, r2, r3, -⟩ := i2'
    have I1 := Lib.hid i1
    have I2 := Lib.hid i2
    have I4 := Lib.hid i4
    clear i1 i2 i4
    have hsl := HG.out.slice (k := (x : Int)) (by omega) (by have := HN.out; omega)
    have W2 := HG.out.w2
    have H2 := HG.out.h2
    have q1 := HQ.out.w1
    have q2 := HQ.out.h1
    have q3 := HQ.out.x0
    have q4 := HQ.out.y0
    have q5 := HQ.out.x1
    have q6 := HQ.out.y1
    obtain ⟨-, -, -, -, x0, x1, -, y0', y1, v0, v1, v2, -, u0, u1, u2, -⟩ := hsl
    have hM : Hid (∀ (b : Bool) (X : World), meetsB g q x = b → Calls Try.prog 25 #[.agg #[.int .i64 (g.x x), .int .i64 (g.y x), .int .i64 (g.rw x), .int .i64 (g.rh x)], .agg #[.int .i64 q.x, .int .i64 q.y, .int .i64 q.w, .int .i64 q.h]] X fun e w' => e = .returned (.bool b) ∧ Below X.heap.size X w') :=
      Lib.hid fun b X hb => meets_ok _ _ _ _ q b X (by omega) (by omega) (by omega) (by omega) (by omega) (by omega) (by omega) (by omega) hb
    clear x0 x1 y0' y1 v0 v1 v2 u0 u1 u2 W2 H2 q1 q2 q3 q4 q5 q6
    dsimp only [rectV]
    cases hp : meetsB g q x with
    | true =>
      have HP := Lib.hid hp
      clear hp
      gi_wp2_with (refine ⟨trivial, ?_⟩; gi_at_call 25; refine (CallsIn.inRound l2 (callsIn_wide.2 (hM.out true _ HP.out))).mono ?_; rintro e w1 ⟨rfl, hb1⟩; have c4 := (hb1.cell (p := ⟨W.heap.size, 0, none⟩) (show W.heap.size < X.heap.size by omega)).trans I4.out; have J2 := HJ.out _ _ _ I1.out (hb1.mono (by omega)); obtain ⟨fn, tmps, assign, body, hy, hR⟩ := YieldAt.anyDepth rfl 0 (HY.out _ x _ J2 ⟨rfl, hx, HP.out⟩))
      have IB := Lib.hid (I2.out.below hb1)
      have SZ := Nat.le_trans i3 hb1.size
      have KB := Lib.hid (KeepG.of_below (G := G) hb1)
      have C4 := Lib.hid c4
      have FS : Hid ((List.range x ++ [x]).filter (meetsB g q) = (List.range x).filter (meetsB g q) ++ [x]) := Lib.hid (by rw [filt_snoc, if_pos HP.out])
      refine (show RoundIn (Fence.wide.inRound l2) 0 _ _ _ _ _ _ _ _ from hR).mono ?_
      clear hR hy hb1 c4 J2
      rintro e W3 (⟨rfl, hJ3, hk3⟩ | ⟨rfl, hJ3, hk3⟩)
      · have J3 := Lib.hid hJ3
        have K3 := Lib.hid hk3
        clear hJ3 hk3
        gi_wp2
        refine ⟨KB.out.trans K3.out, by rw [FS.out]; exact J3.out, IB.out.keep K3.out h1 h2 h3, by have := K3.out.size; omega, K3.out.cell (fun h => by have := hGl _ h; omega) C4.out⟩
      · have J3 := Lib.hid hJ3
        have K3 := Lib.hid hk3
        clear hJ3 hk3
        gi_wp2
        refine ⟨KB.out.trans K3.out, rfl, by rw [FS.out]; exact J3.out⟩
    | false =>
      have HP := Lib.hid hp
      clear hp
      gi_wp2_with (refine ⟨trivial, ?_⟩; gi_at_call 25; refine (CallsIn.inRound l2 (callsIn_wide.2 (hM.out false _ HP.out))).mono ?_; rintro e w1 ⟨rfl, hb1⟩)
      refine ⟨fun _ h => (by cases h), ?_⟩
      gi_wp2
      have FS : Hid ((List.range x ++ [x]).filter (meetsB g q) = (List.range x).filter (meetsB g q)) := Lib.hid (by rw [filt_snoc, if_neg (by rw [HP.out]; simp)])
      refine ⟨KeepG.of_below hb1, by rw [FS.out]; exact HJ.out _ _ _ I1.out (hb1.mono (by omega)), I2.out.below hb1, Nat.le_trans i3 hb1.size, (hb1.cell (p := ⟨W.heap.size, 0, none⟩) (show W.heap.size < X.heap.size by omega)).trans I4.out⟩
  case done =>
    rintro D xs X hD rfl ⟨i1, -⟩ hd
    have I1 := Lib.hid i1
    clear i1
    gi_wp2
    refine ⟨by simp, .inl ⟨_, _, rfl, run_takeDeferred hd, ?_⟩⟩
    exact ⟨_, results_none rfl _ _ _, ⟨_, rfl⟩, .inl ⟨_, rfl, HJ.out _ _ _ I1.out ⟨rfl, rfl, rfl, by simp, fun k hk => World.putObj_heap_other (by omega)⟩⟩⟩
  case stop =>
    rintro D c pre X hD ⟨k, hk, rfl⟩ ⟨rfl, hx⟩ hd
    have I1 := Lib.hid hx
    clear hx
    gi_wp2
    refine ⟨by simp, .inl ⟨_, _, rfl, run_takeDeferred hd, ?_⟩⟩
    exact ⟨_, results_none rfl _ _ _, ⟨_, rfl⟩, .inr ⟨_, ⟨k, hk, rfl⟩, HX.out _ _ _ I1.out ⟨rfl, rfl, rfl, by simp, fun k hk => World.putObj_heap_other (by omega)⟩⟩⟩

theorem t2_tells (s r b2 N : Nat) (g : Gd) (q : Rq) (hg : g.Ok) (hq : q.In g) (hN : g.n = (N : Int)) (w : World) (hT : TAt w s r b2 g q) :
    Tells Try.prog 24 #[.pointer (some ⟨s, 0, none⟩), .pointer (some ⟨r, 0, none⟩)] (fun x : Nat => #[.int .i64 (x : Int)]) (fun ys => ys = (List.range N).filter (meetsB g q)) (fun pre => ∃ k, k ≤ N ∧ pre = (List.range k).filter (meetsB g q)) (fun pre x => pre = (List.range x).filter (meetsB g q) ∧ x < N ∧ meetsB g q x = true) (fun k => k = s ∨ k = r ∨ k = b2) w :=
  fun l G J Jx W hW hG hJ hJx hY h0 => t2_in 0 l s r b2 N G g q hg hq hN (fun h => (hG _ h).1 (.inl rfl)) (fun h => (hG _ h).1 (.inr (.inl rfl))) (fun h => (hG _ h).1 (.inr (.inr rfl))) J Jx W hJ hJx hY (fun k h => (hG k h).2) (hT.below hW) h0
end Go.Proofs.Ytnhemnabjlcgeaa
