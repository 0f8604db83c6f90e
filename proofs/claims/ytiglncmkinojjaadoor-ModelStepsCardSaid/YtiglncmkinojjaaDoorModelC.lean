import Derived.Test.YtiglncmkinojjaaDoorModelB
namespace Go.Proofs.YtiglncmkinojjaaDoor
set_option linter.unusedSimpArgs false
set_option linter.unusedVariables false
open Go Go.RowKit

def st4 (s : Int × Int × Int × Int) : List Value := [.int .i64 s.1, .int .i64 s.2.1, .int .i64 s.2.2.1, .int .i64 s.2.2.2]
theorem flat4_get (l : List (Int × Int × Int × Int)) (k j : Nat) (hj : j < 4) : (l.flatMap st4)[k * 4 + j]? = (l[k]?).bind fun s => (st4 s)[j]? := by
  induction l generalizing k with
  | nil => simp
  | cons s l ih =>
    rw [List.flatMap_cons]
    cases k with
    | zero =>
      rw [List.getElem?_append_left (by simp [st4]; omega)]
      simp
    | succ k =>
      rw [List.getElem?_append_right (by simp [st4]; omega)]
      have : (k + 1) * 4 + j - (st4 s).length = k * 4 + j := by simp [st4]; omega
      rw [this, ih]
      simp

theorem Mo.cells_get (M : Mo) (k j : Nat) (hj : j < 4) (hk : k < M.st.length) : M.cells[8 + k * 4 + j]? = (st4 M.st[k])[j]? := by
  unfold Mo.cells
  rw [List.getElem?_append_right (by simp; omega)]
  have : 8 + k * 4 + j - ([Value.int .i64 M.most, .int .i64 M.d, .int .i64 M.step, .int .i64 M.span, .int .i64 M.wide, .int .i64 M.t0, .int .i64 M.t1, .int .i64 M.t2]).length = k * 4 + j := by simp; omega
  rw [this]
  have := flat4_get M.st k j hj
  rw [List.getElem?_eq_getElem hk] at this
  exact this

theorem statFacts {c : Ctx} {R : List HP} {g : Nat} {M : Mo} {w : World} (hS : St c (mdl g M :: R) w) {k : Nat} {s : Int × Int × Int × Int} (hr : M.st[k]? = some s) :
    w.cell? ⟨g, 8 + k * 4, none⟩ = some (.int .i64 s.1) ∧ w.cell? ⟨g, 8 + k * 4 + 1, none⟩ = some (.int .i64 s.2.1) ∧ w.cell? ⟨g, 8 + k * 4 + 2, none⟩ = some (.int .i64 s.2.2.1) ∧ w.cell? ⟨g, 8 + k * 4 + 3, none⟩ = some (.int .i64 s.2.2.2) := by
  obtain ⟨hl, rfl⟩ := List.getElem?_eq_some_iff.1 hr
  refine ⟨?_, ?_, ?_, ?_⟩
  · rw [St.cell hS, show 8 + k * 4 = 8 + k * 4 + 0 from rfl, M.cells_get k 0 (by decide) hl]; rfl
  · rw [St.cell hS, M.cells_get k 1 (by decide) hl]; rfl
  · rw [St.cell hS, M.cells_get k 2 (by decide) hl]; rfl
  · rw [St.cell hS, M.cells_get k 3 (by decide) hl]; rfl

theorem Mo.cells_set (M : Mo) (k j : Nat) (hj : j < 4) (hk : k < M.st.length) (v : Int) (s' : Int × Int × Int × Int) (h : (st4 M.st[k]).set j (.int .i64 v) = st4 s') :
    M.cells.set (8 + k * 4 + j) (.int .i64 v) = { M with st := M.st.set k s' : Mo }.cells := by
  apply List.ext_getElem?
  intro i
  have hl : M.cells.length = 8 + M.st.length * 4 := by
    unfold Mo.cells
    have : ∀ l : List (Int × Int × Int × Int), (l.flatMap st4).length = l.length * 4 := by
      intro l
      induction l with
      | nil => rfl
      | cons a l ih => rw [List.flatMap_cons, List.length_append, ih]; simp [st4]; omega
    rw [List.length_append]
    exact congrArg (8 + ·) (this M.st)
  by_cases h8 : i < 8
  · rw [List.getElem?_set_ne (by omega)]
    unfold Mo.cells
    rw [List.getElem?_append_left (by simpa using h8), List.getElem?_append_left (by simpa using h8)]
  · obtain ⟨a, b, hb, rfl⟩ : ∃ a b, b < 4 ∧ i = 8 + a * 4 + b := ⟨(i - 8) / 4, (i - 8) % 4, by omega, by omega⟩
    by_cases ha : a < M.st.length
    · rw [Mo.cells_get _ a b hb (by simpa using ha)]
      by_cases hak : a = k
      · subst hak
        simp only [List.getElem_set_self]
        rw [← h]
        by_cases hbj : b = j
        · subst hbj
          rw [List.getElem?_set_self (by omega), List.getElem?_set_self (by simp [st4]; omega)]
        · rw [List.getElem?_set_ne (by omega), List.getElem?_set_ne (by omega), M.cells_get a b hb ha]
      · rw [List.getElem?_set_ne (by omega), M.cells_get a b hb ha]
        simp only [List.getElem_set_ne (Ne.symm hak)]
    · rw [List.getElem?_eq_none (by simp; omega)]
      rw [List.getElem?_eq_none]
      have : { M with st := M.st.set k s' : Mo }.cells.length = 8 + M.st.length * 4 := by
        unfold Mo.cells
        have : ∀ l : List (Int × Int × Int × Int), (l.flatMap st4).length = l.length * 4 := by
          intro l
          induction l with
          | nil => rfl
          | cons a l ih => rw [List.flatMap_cons, List.length_append, ih]; simp [st4]; omega
        rw [List.length_append]
        have h2 := this (M.st.set k s')
        rw [List.length_set] at h2
        exact congrArg (8 + ·) h2
      omega

theorem mdl_stat {c : Ctx} {R : List HP} {g : Nat} {M : Mo} {w : World} (hS : St c (mdl g M :: R) w) {k : Nat} (hk : k < M.st.length) (a b s n : Int) :
    St c (mdl g { M with st := M.st.set k (a, b, s, n) } :: R) ((((w.setCell ⟨g, 8 + k * 4, none⟩ (.int .i64 a)).setCell ⟨g, 8 + k * 4 + 1, none⟩ (.int .i64 b)).setCell ⟨g, 8 + k * 4 + 2, none⟩ (.int .i64 s)).setCell ⟨g, 8 + k * 4 + 3, none⟩ (.int .i64 n)) := by
  have h0 := St.setCell hS (8 + k * 4 + 0) (.int .i64 a)
  rw [M.cells_set k 0 (by decide) hk a (a, M.st[k].2.1, M.st[k].2.2.1, M.st[k].2.2.2) rfl] at h0
  have h1 := St.setCell h0 (8 + k * 4 + 1) (.int .i64 b)
  rw [Mo.cells_set _ k 1 (by decide) (by simpa using hk) b (a, b, M.st[k].2.2.1, M.st[k].2.2.2) (by simp [st4])] at h1
  have h2 := St.setCell h1 (8 + k * 4 + 2) (.int .i64 s)
  rw [Mo.cells_set _ k 2 (by decide) (by simpa using hk) s (a, b, s, M.st[k].2.2.2) (by simp [st4])] at h2
  have h3 := St.setCell h2 (8 + k * 4 + 3) (.int .i64 n)
  rw [Mo.cells_set _ k 3 (by decide) (by simpa using hk) n (a, b, s, n) (by simp [st4])] at h3
  simpa [mdl] using h3

theorem results_tmp4 {fn : Func} {t u v x : Tmp} (h : fn.results = #[.tmp t, .tmp u, .tmp v, .tmp x]) (tmps : Array Value) (P : Program) (w : World) :
    (results fn tmps).run P w = .ok (.tuple #[tmps.getD t undef, tmps.getD u undef, tmps.getD v undef, tmps.getD x undef]) w := by
  simp [results, h]

set_option maxRecDepth 100000 in
theorem known_ok (k : Nat) (w : World) (hk : k < 365) :
    Calls Tryd.prog 28 #[.int .i64 (k : Nat)] w fun e w' => e = .returned (.bool true) ∧ w' = w := by
  have hk' : decide ((k : Int) < 365) = true := decide_eq_true (by omega)
  go_enter Tryd.func28, Tryd.ntmps28
  go_wp2_with fail
  all_goals (go_ret; exact ⟨rfl, rfl⟩)

theorem Stats_ok (c : Ctx) (R : List HP) (g : Nat) (M : Mo) (k : Nat) (a b s n : Int) (w : World) (hS : St c (mdl g M :: R) w) (hM : M.Fits) (hk : k < 365) (hr : M.st[k]? = some (a, b, s, n)) :
    Calls Tryd.prog 16 #[.pointer (some ⟨g, 0, none⟩), .int .i64 (k : Nat)] w fun e' w' => e' = .returned (.tuple #[.int .i64 a, .int .i64 b, .int .i64 s, .int .i64 n]) ∧ St c (mdl g M :: R) w' := by
  have hl : k < M.st.length := by rw [hM.n]; exact hk
  have hr' : M.st[k] = (a, b, s, n) := by rw [List.getElem?_eq_getElem hl] at hr; exact Option.some.inj hr
  have f0 : w.cell? ⟨g, 8 + k * 4, none⟩ = some (.int .i64 a) := by rw [St.cell hS, show 8 + k * 4 = 8 + k * 4 + 0 from rfl, M.cells_get k 0 (by decide) hl, hr']; rfl
  have f1 : w.cell? ⟨g, 8 + k * 4 + 1, none⟩ = some (.int .i64 b) := by rw [St.cell hS, M.cells_get k 1 (by decide) hl, hr']; rfl
  have f2 : w.cell? ⟨g, 8 + k * 4 + 2, none⟩ = some (.int .i64 s) := by rw [St.cell hS, M.cells_get k 2 (by decide) hl, hr']; rfl
  have f3 : w.cell? ⟨g, 8 + k * 4 + 3, none⟩ = some (.int .i64 n) := by rw [St.cell hS, M.cells_get k 3 (by decide) hl, hr']; rfl
  have HS := Lib.hid hS
  clear hS hr hr' hl hM
  go_enter Tryd.func16, Tryd.ntmps16
  go_wp2_with (go_at_call 28; go_must (with_reducible refine (known_ok k _ hk).mono ?_); rintro e1 w1 ⟨rfl, rfl⟩; simp only [])
  go_quiet (fail)
  go_wp2_with fail
  (try simp only [Exit.inBlock, Exit.then]); refine bodyPost_ret (results_tmp4 rfl _ _ _) rfl ?_
  exact ⟨rfl, (HS.out.allocSkip _).drewN _⟩

end Go.Proofs.YtiglncmkinojjaaDoor
