import Derived.Test.YtnhemnabjlcgeaaRf
import Derived.Shelf.Abstract
/-! A loop over a function value at the wide fence: what an iterator tells (Tells), and the loop's law; blocks from n₀ on are the loop's own. -/
namespace Go.Proofs.Ytnhemnabjlcgeaa
set_option linter.unusedSimpArgs false
set_option linter.unusedVariables false
open Go Go.RowKit

/-- Whatever there was lies as it lay, but for the blocks of G. -/
structure KeepG (G : Nat → Prop) (W W' : World) : Prop where
  os : W'.os = W.os
  tape : W'.tape = W.tape
  output : W'.output = W.output
  size : W.heap.size ≤ W'.heap.size
  block : ∀ k, k < W.heap.size → ¬ G k → W'.heap[k]? = W.heap[k]?
theorem KeepG.refl (G : Nat → Prop) (W : World) : KeepG G W W := ⟨rfl, rfl, rfl, Nat.le_refl _, fun _ _ _ => rfl⟩
theorem KeepG.trans {G : Nat → Prop} {A B C : World} (h : KeepG G A B) (k : KeepG G B C) : KeepG G A C :=
  ⟨k.os.trans h.os, k.tape.trans h.tape, k.output.trans h.output, Nat.le_trans h.size k.size, fun i hi hn => (k.block i (Nat.lt_of_lt_of_le hi h.size) hn).trans (h.block i hi hn)⟩
theorem KeepG.mono {G G' : Nat → Prop} {A B : World} (h : KeepG G A B) (h1 : ∀ k, G k → G' k) : KeepG G' A B :=
  ⟨h.os, h.tape, h.output, h.size, fun i hi hn => h.block i hi fun hg => hn (h1 i hg)⟩
theorem KeepG.of_below {G : Nat → Prop} {A B : World} (h : Below A.heap.size A B) : KeepG G A B := ⟨h.os, h.tape, h.output, h.size, fun k hk _ => h.block k hk⟩
theorem KeepG.put {G : Nat → Prop} {l : Nat} {A : World} {o : Obj} (hl : G l) : KeepG G A (A.putObj l o) :=
  ⟨rfl, rfl, rfl, by simp, fun k _ hk => World.putObj_heap_other (fun e => hk (by rw [e]; exact hl))⟩
theorem KeepG.cell {G : Nat → Prop} {b o : Nat} {A B : World} {v : Value} (h : KeepG G A B) (hb : ¬ G b) (hc : A.cell? ⟨b, o, none⟩ = some v) : B.cell? ⟨b, o, none⟩ = some v := by
  have h1 := World.block_lt_of_cell? A _ hc
  have h2 := h.block b h1 hb
  rw [← hc]
  simp [World.cell?, h2]

/-- What a call of an iterator tells a loop's rounds. -/
def Tells {α : Type} (P : Program) (gf : Nat) (lb : Array Value) (encs : α → Array Value) (S Sp : List α → Prop) (V : List α → α → Prop) (C : Nat → Prop) (w : World) : Prop :=
  ∀ (l : Nat) (G : Nat → Prop) (J Jx : List α → World → Prop) (W : World), Below w.heap.size w W → (∀ k, G k → ¬ C k ∧ k < W.heap.size) →
    (∀ s A B, J s A → Below W.heap.size A B → J s B) → (∀ s A B, Jx s A → Below W.heap.size A B → Jx s B) →
    (∀ pre x W1, J pre W1 → V pre x → YieldAt Fence.wide 0 P l (encs x) W1 fun e W' => (e = .returned (.bool true) ∧ J (pre ++ [x]) W' ∧ KeepG G W1 W') ∨ (e = .returned (.bool false) ∧ Jx (pre ++ [x]) W' ∧ KeepG G W1 W')) →
    J [] W → CallsIn Fence.wide 0 P gf (#[.func (.yield l) #[] #[]] ++ lb) W fun e W' => (∃ v, e = .returned v) ∧ ((∃ xs, S xs ∧ J xs W') ∨ (∃ pre, Sp pre ∧ Jx pre W'))

/-- How the body of a round may be left. -/
def roundEnd {α : Type} (M : Nat → Prop) (I : List α → World → Prop) (Ix : Code → List α → World → Prop) (xs : List α) (W : World) : Exit → Act → World → Prop
  | .normal, _, W' => KeepG M W W' ∧ I xs W'
  | .ret, _, W' => KeepG M W W' ∧ Ix .ret xs W'
  | .exit id, _, W' => KeepG M W W' ∧ Ix (.exit id) xs W'
  | .goto t, _, W' => KeepG M W W' ∧ Ix (.goto t) xs W'
  | .panic _, _, _ => False
  | .outgrown, _, _ => False

theorem range_law {α : Type} {P : Program} {n : Nat} {g : Operand} {ps : Array Tmp} {assign body : Code} {Q : Exit → Act → World → Prop} {a : Act} {w : World}
    {gf : Nat} {lb : Array Value} (hg : a.eval g = .func (.func gf) #[] lb) (eg : ∀ args w, (callFunc gf args).run P w = .ok (.enter gf args) w)
    {encs : α → Array Value} {S Sp : List α → Prop} {V : List α → α → Prop} {C : Nat → Prop} (hseq : Tells P gf lb encs S Sp V C w) (M : Nat → Prop) (hM : ∀ k, M k → ¬ C k ∧ k < w.heap.size) (hC : ∀ k, C k → k < w.heap.size) (hps : ∀ x, (encs x).size = ps.size)
    (I : List α → World → Prop) (Ix : Code → List α → World → Prop) (hI : ∀ s A B, I s A → Below w.heap.size A B → I s B) (hIx : ∀ c s A B, Ix c s A → Below w.heap.size A B → Ix c s B) (h0 : I [] w)
    (Ax : List α → α → Act → World → Prop) (hAx : ∀ pre x a', OwnFrom w.heap.size (fun (_ : Unit) W => Ax pre x a' W))
    (hassign : ∀ (l : Nat) (pre : List α) (x : α) (W : World) (K : Act → World → Prop), I pre W → V pre x → w.heap.size ≤ W.heap.size → (∀ a' W', KeepG M W W' → Ax pre x a' W' → K a' W') →
      assign.wpIn (Fence.wide.inRound l) 1 P (Exit.then K (fun _ _ _ => False)) { tmps := (ps.zip (encs x)).foldl (fun t (p, v) => t.setIfInBounds p v) a.tmps, defers := [] } W)
    (hbody : ∀ (l : Nat) (pre : List α) (x : α) (a' : Act) (W : World), Ax pre x a' W → V pre x → w.heap.size ≤ W.heap.size → body.wpIn (Fence.wide.inRound l) 1 P (roundEnd M I Ix (pre ++ [x]) W) a' W)
    (hdone : ∀ (D : Nat) (xs : List α) (W : World), w.heap.size ≤ D → S xs → I xs W → W.heap[D]? = some (.deferred (some [])) → Q .normal { a with defers := { target := .collected D, args := #[] } :: a.defers } W)
    (hstop : ∀ (D : Nat) (c : Code) (pre : List α) (W : World), w.heap.size ≤ D → Sp pre → Ix c pre W → W.heap[D]? = some (.deferred (some [])) → c.wpIn Fence.wide n P Q { a with defers := { target := .collected D, args := #[] } :: a.defers } W) :
    (Code.rangeFunc g ps assign body).wpIn Fence.wide n P Q a w := by
  refine wpIn_rangeFunc fun fn hfn => ?_
  obtain ⟨B, hB⟩ : ∃ B, w.heap.size = B := ⟨_, rfl⟩
  obtain ⟨rec, hrec⟩ : ∃ rec : LoopState → Option Code → Loop, rec = fun st pe => { state := st, pending := pe, fn, tmps := a.tmps, params := ps, assign, body, defers := B } := ⟨_, rfl⟩
  obtain ⟨W1, hW1⟩ : ∃ W1, (w.alloc (.deferred (some []))).alloc (.loop (rec .ready none)) = W1 := ⟨_, rfl⟩
  have z1 : W1.heap.size = B + 2 := by rw [← hW1, ← hB]; simp
  have L1 : W1.heap[B + 1]? = some (.loop (rec .ready none)) := by
    have h := World.alloc_heap_new (w.alloc (.deferred (some []))) (.loop (rec .ready none))
    rw [World.size_alloc, hB, hW1] at h
    exact h
  have D1 : W1.heap[B]? = some (.deferred (some [])) := by
    rw [← hW1, ← hB]
    exact (Below.heap_alloc _ _ _ (by simp)).trans (World.alloc_heap_new w _)
  have b1 : Below B w W1 := by
    rw [← hW1, ← hB]
    exact ((Below.refl _ w).alloc (Nat.le_refl _) _).alloc (by simp) _
  simp only [hB] at hM hC hI hIx hAx hassign hbody hdone hstop
  refine ⟨B + 1, [{ target := .collected B, args := #[] }], W1, { target := .fn (.func gf) lb, args := #[.func (.yield (B + 1)) #[] #[]] }, W1, gf,
    #[.func (.yield (B + 1)) #[] #[]] ++ lb, W1, ?_, ?_, fun _ _ => trivial, ?_, (fun h => by cases h), ?_⟩
  · have h := run_enterLoop_outer (P := P) (w := w) fn a.tmps ps assign body
    rw [hB] at h
    rw [← hW1, hrec]
    exact h
  · simp only [resolve, hg]
    simp [go_sem]
  · simp [invoke, go_sem, eg]
  refine callsIn_wide.2 ((callsIn_wide (n := 0)).1 ?_)
  refine (hseq (B + 1) (fun k => M k ∨ k = B + 1)
    (fun pre W => I pre W ∧ B + 2 ≤ W.heap.size ∧ W.heap[B + 1]? = some (.loop (rec .ready none)) ∧ W.heap[B]? = some (.deferred (some [])))
    (fun pre W => ∃ c, Ix c pre W ∧ W.heap[B + 1]? = some (.loop (rec .done (some c))) ∧ W.heap[B]? = some (.deferred (some [])))
    W1 (by rw [hB]; exact b1) (fun k hk => hk.elim (fun h => ⟨(hM k h).1, by have := (hM k h).2; omega⟩) (fun h => ⟨fun hc => by have := hC k hc; omega, by omega⟩))
    (fun s X Y h hb => ⟨hI _ _ _ h.1 (hb.mono (by omega)), Nat.le_trans h.2.1 hb.size, (hb.block _ (by omega)).trans h.2.2.1, (hb.block _ (by omega)).trans h.2.2.2⟩)
    (fun s X Y ⟨c, h, hl, hd⟩ hb => ⟨c, hIx _ _ _ _ h (hb.mono (by omega)), (hb.block _ (by omega)).trans hl, (hb.block _ (by omega)).trans hd⟩) ?_ ⟨hI _ _ _ h0 b1, by omega, L1, D1⟩).mono ?_
  · rintro pre x W ⟨hi, hs, hl, hd⟩ hlen
    have hy := run_yield (P := P) (args := encs x) hl (by rw [hrec]; exact hps x)
    rw [hrec] at hy
    refine ⟨fn, _, assign, body, hy, RoundIn.anyDepth (m := 1) rfl (roundIn_of_wpIn (n := 1) trivial (hassign _ pre x W _ hi hlen (by omega) fun a' Wa ka ax => ?_))⟩
    have la : Wa.heap[B + 1]? = some (.loop (rec .ready none)) := (ka.block _ (by omega) (fun h => by have := (hM _ h).2; omega)).trans hl
    have da : Wa.heap[B]? = some (.deferred (some [])) := (ka.block _ (by omega) (fun h => by have := (hM _ h).2; omega)).trans hd
    have sa := ka.size
    refine ⟨_, run_beginRound la (by rw [hrec]), ?_⟩
    have l2 : (Wa.putObj (B + 1) (.loop { rec .ready none with state := .busy })).heap[B + 1]? = some (.loop { rec .ready none with state := .busy }) := World.putObj_heap_same (by omega)
    have d2 : (Wa.putObj (B + 1) (.loop { rec .ready none with state := .busy })).heap[B]? = some (.deferred (some [])) := (World.putObj_heap_other (by omega)).trans da
    have ax2 := hAx pre x a' () Wa _ (some (B + 1)) ax (grownBy_putObj' Wa (B + 1) (.loop { rec .ready none with state := .busy })) (fun r e => by cases e; exact ⟨by omega, _, la, rfl⟩)
    refine wpIn_mono (hbody (B + 1) pre x a' _ ax2 hlen (by simp; omega)) ?_
    have fin : ∀ (jump : Option Code) (W3 : World), KeepG M (Wa.putObj (B + 1) (.loop { rec .ready none with state := .busy })) W3 →
        (Instr.endRound (B + 1) jump).run P W3 = .ok (.bool jump.isNone) (W3.putObj (B + 1) (.loop (rec (if jump.isNone then .ready else .done) jump))) ∧
        Below (B + 1) W3 (W3.putObj (B + 1) (.loop (rec (if jump.isNone then .ready else .done) jump))) ∧ B + 2 ≤ W3.heap.size ∧
        (W3.putObj (B + 1) (.loop (rec (if jump.isNone then .ready else .done) jump))).heap[B + 1]? = some (.loop (rec (if jump.isNone then .ready else .done) jump)) ∧
        (W3.putObj (B + 1) (.loop (rec (if jump.isNone then .ready else .done) jump))).heap[B]? = some (.deferred (some [])) := fun jump W3 k3 => by
      have l3 := (k3.block (B + 1) (by simp; omega) (fun h => by have := (hM _ h).2; omega)).trans l2
      have d3 := (k3.block B (by simp; omega) (fun h => by have := (hM _ h).2; omega)).trans d2
      have s3 := k3.size
      simp at s3
      have h := run_endRound (P := P) jump l3
      rw [hrec] at h ⊢
      exact ⟨h, ⟨rfl, rfl, rfl, by simp, fun k hk => World.putObj_heap_other (by omega)⟩, by omega, World.putObj_heap_same (by omega), (World.putObj_heap_other (by omega)).trans d3⟩
    have whole : ∀ {W3 : World} {o : Obj}, KeepG M (Wa.putObj (B + 1) (.loop { rec .ready none with state := .busy })) W3 → KeepG (fun k => M k ∨ k = B + 1) W (W3.putObj (B + 1) o) := fun k3 =>
      (ka.mono fun _ => .inl).trans ((KeepG.put (.inr rfl)).trans ((k3.mono fun _ => .inl).trans (KeepG.put (.inr rfl))))
    rintro e a3 W3 hp
    cases e with
    | normal =>
      obtain ⟨k3, i3⟩ := hp
      obtain ⟨hr, bw, s3, l4, d4⟩ := fin none W3 k3
      refine ⟨_, _, hr, .inl ⟨rfl, ⟨hI _ _ _ i3 (bw.mono (by omega)), by simpa using s3, l4, d4⟩, ?_⟩⟩
      exact whole k3
    | ret =>
      obtain ⟨k3, i3⟩ := hp
      obtain ⟨hr, bw, s3, l4, d4⟩ := fin (some .ret) W3 k3
      exact ⟨_, _, hr, .inr ⟨rfl, ⟨.ret, hIx _ _ _ _ i3 (bw.mono (by omega)), l4, d4⟩, whole k3⟩⟩
    | exit id =>
      obtain ⟨k3, i3⟩ := hp
      obtain ⟨hr, bw, s3, l4, d4⟩ := fin (some (.exit id)) W3 k3
      exact ⟨_, _, hr, .inr ⟨rfl, ⟨.exit id, hIx _ _ _ _ i3 (bw.mono (by omega)), l4, d4⟩, whole k3⟩⟩
    | goto t =>
      obtain ⟨k3, i3⟩ := hp
      obtain ⟨hr, bw, s3, l4, d4⟩ := fin (some (.goto t)) W3 k3
      exact ⟨_, _, hr, .inr ⟨rfl, ⟨.goto t, hIx _ _ _ _ i3 (bw.mono (by omega)), l4, d4⟩, whole k3⟩⟩
    | panic ch => exact hp.elim
    | outgrown => exact hp.elim
  · rintro e W2 ⟨⟨v, rfl⟩, (⟨xs, hS, hi, hs, hl, hd⟩ | ⟨pre, hSp, c, hi, hl, hd⟩)⟩
    · have h := run_endLoop (P := P) hl (by rw [hrec]; simp)
      rw [hrec] at h
      exact ⟨none, _, h, hdone B xs _ (Nat.le_refl _) hS (hI _ _ _ hi ⟨rfl, rfl, rfl, by simp, fun k hk => World.putObj_heap_other (by omega)⟩) ((World.putObj_heap_other (by omega)).trans hd)⟩
    · have h := run_endLoop (P := P) hl (by rw [hrec]; simp)
      rw [hrec] at h
      exact ⟨some c, _, h, hstop B c pre _ (Nat.le_refl _) hSp (hIx _ _ _ _ hi ⟨rfl, rfl, rfl, by simp, fun k hk => World.putObj_heap_other (by omega)⟩) ((World.putObj_heap_other (by omega)).trans hd)⟩

/-- A function that holds such loops and never panics, walked by the plain walk. -/
def retPost (n : Nat) (P : Program) (fn : Func) (R : Ending → World → Prop) : Exit → Act → World → Prop
  | .normal, a, w | .ret, a, w => LeavesInM Fence.wide n P fn a.tmps R a.defers .returning w
  | _, _, _ => False
theorem calls_marks {n : Nat} {P : Program} {f : FuncId} {fn : Func} {c : Code} {args : Array Value} {w : World} {R : Ending → World → Prop} (hf : P.funcs[f]? = some fn) (hb : fn.body = some c)
    (h : c.wp P (retPost n P fn R) { tmps := args ++ Array.replicate (fn.ntmps - args.size) undef, defers := [] } w) : Calls P f args w R := by
  refine (callsIn_wide (n := n)).1 (callsIn_of_wp_marks hf hb trivial (wpIn_mono (wpIn_wide.2 h) ?_) rfl)
  intro e a w hq
  cases e <;> first | exact hq | exact hq.elim
/-- The way out over the marks. -/
theorem leave_mark {n : Nat} {P : Program} {fn : Func} {tmps : Array Value} {R : Ending → World → Prop} {D : Nat} {ds : List Deferred} {w : World} (hd : w.heap[D]? = some (.deferred (some [])))
    (h : LeavesInM Fence.wide n P fn tmps R ds .returning (w.putObj D (.deferred none))) : LeavesInM Fence.wide n P fn tmps R ({ target := .collected D, args := #[] } :: ds) .returning w :=
  ⟨by simp, .inl ⟨_, _, rfl, run_takeDeferred hd, h⟩⟩
theorem leave_end {n : Nat} {P : Program} {fn : Func} {tmps : Array Value} {R : Ending → World → Prop} {w : World} {v : Value} (hr : (results fn tmps).run P w = .ok v w) (h : R (.returned v) w) : LeavesInM Fence.wide n P fn tmps R [] .returning w := ⟨_, hr, h⟩
end Go.Proofs.Ytnhemnabjlcgeaa
