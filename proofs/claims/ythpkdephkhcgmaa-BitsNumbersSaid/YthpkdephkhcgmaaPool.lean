import Derived.Test.YthpkdephkhcgmaaSl
/-! A pool: lists that may share their blocks; each block has one mark, and as far as a list goes its block reads so. -/
namespace Go.Proofs.Ythpkdephkhcgmaa
set_option linter.unusedSimpArgs false
set_option linter.unusedVariables false
open Go Go.RowKit

/-- A list of a pool. -/
def Marked (w : World) (e : TypeId) (mk : Nat → Value) (v m : Value) : Prop :=
  v = .slice none 0 0 ∨ ∃ g n cap cur, v = .slice (some ⟨g, 0, none⟩) n cap ∧ w.heap[g]? = some (.cells cur e (0, 0)) ∧ n ≤ cap ∧ cap ≤ maxLen ∧ cur.size = cap ∧ mk g = m ∧ ∀ j, j < n → cur[j]? = some m

theorem Marked.loc {w w' : World} {e : TypeId} {mk : Nat → Value} {v m : Value} (h : Marked w e mk v m) (hk : ∀ g, v.ownBlock = some g → w'.heap[g]? = w.heap[g]?) : Marked w' e mk v m := by
  rcases h with h | ⟨g, n, cap, cur, rfl, hg, rest⟩
  · exact .inl h
  · exact .inr ⟨g, n, cap, cur, rfl, (hk g rfl).trans hg, rest⟩

def pool (e : TypeId) (l : List (Value × Value)) : HP where
  on w F := (∃ mk : Nat → Value, ∀ p ∈ l, Marked w e mk p.1 p.2 ∧ ∀ g, p.1.ownBlock = some g → F g) ∧ ∀ k, F k → k < w.heap.size
  loc := by
    rintro w w' F ⟨⟨mk, h⟩, hF⟩ e
    refine ⟨⟨mk, fun p hp => ⟨(h p hp).1.loc fun g hg => e g ((h p hp).2 g hg), (h p hp).2⟩⟩, fun k hk => ?_⟩
    have h1 := e k hk
    have h2 := hF k hk
    rw [Array.getElem?_eq_getElem h2] at h1
    exact lt_of_some h1
  lt := fun h hk => h.2 _ hk

section
variable {c : Ctx} {R : List HP} {w : World} {e : TypeId} {l : List (Value × Value)}

theorem St.poolNil (h : St c R w) (e : TypeId) : St c (pool e [] :: R) w := by
  refine St.step (A := HP.pure True) (h.add trivial) (fun _ _ => False) (fun F hF => ⟨⟨⟨fun _ => .int .i64 0, fun p hp => by cases hp⟩, fun _ h => h.elim⟩, fun k hk => hk.elim⟩) rfl rfl rfl (Nat.le_refl _) ?_
  intros; rfl

/-- Some of them. -/
theorem St.poolSub (h : St c (pool e l :: R) w) {l' : List (Value × Value)} (hs : ∀ p ∈ l', p ∈ l) : St c (pool e l' :: R) w :=
  h.mono fun F hF => ⟨hF.1.imp fun mk hm p hp => hm p (hs p hp), hF.2⟩

/-- A row that is full of a mark comes in. -/
theorem St.poolAdd {v m : Value} {n : Nat} (h : St c (row e 1 v n (List.replicate n m) :: pool e l :: R) w) : St c (pool e ((v, m) :: l) :: R) w := by
  refine (St.unstar h).mono ?_
  rintro F ⟨F1, F2, ⟨hrow, hF1⟩, ⟨⟨mk, hm⟩, hlt⟩, hd, hu⟩
  refine ⟨⟨fun g => if v.ownBlock = some g then m else mk g, fun p hp => ?_⟩, fun k hk => ?_⟩
  · rcases List.mem_cons.1 hp with rfl | hp
    · refine ⟨?_, fun g hg => (hu g).2 (.inl ((hF1 g).2 hg))⟩
      rcases hrow.2 with ⟨hv, _⟩ | ⟨g, cap, cur, hv, _, hg, hnc, hcm, hcs, ht⟩
      · exact .inl hv
      · refine .inr ⟨g, n, cap, cur, hv, hg, hnc, hcm, by omega, ?_, fun j hj => ?_⟩
        · simp only [hv, Value.ownBlock, if_true]
        · have h1 : (cur.toList.take (n * 1))[j]? = some m := by rw [ht]; simp [hj]
          rw [List.getElem?_take, if_pos (by omega)] at h1
          simpa using h1
    · obtain ⟨h1, h2⟩ := hm p hp
      refine ⟨?_, fun g hg => (hu g).2 (.inr (h2 g hg))⟩
      rcases h1 with h1 | ⟨g, n', cap, cur, hv, hg, hnc, hcm, hcs, hmk, hj⟩
      · exact .inl h1
      · refine .inr ⟨g, n', cap, cur, hv, hg, hnc, hcm, hcs, ?_, hj⟩
        have hne : ¬ v.ownBlock = some g := fun e => hd g ((hF1 g).2 e) (h2 g (by rw [hv]; rfl))
        simp only [if_neg hne]
        exact hmk
  · rcases (hu k).1 hk with h | h
    · exact (hrow.lt k ((hF1 k).1 h)).2
    · exact hlt k h

/-- What is known of one of them. -/
theorem St.poolAt {v m : Value} (h : St c (pool e l :: R) w) (hv : (v, m) ∈ l) :
    ∃ ao n cap, v = .slice ao n cap ∧ n ≤ cap ∧ cap ≤ maxLen ∧ (ao = none → n = 0 ∧ cap = 0) ∧ ∀ ad, ao = some ad → ad.off = 0 ∧ ad.spot = none ∧ ∀ j, j < n → w.cell? ⟨ad.block, j, none⟩ = some m := by
  obtain ⟨F, ⟨F1, F2, ⟨⟨mk, hm⟩, hlt⟩, _⟩, _⟩ := h
  rcases (hm _ hv).1 with h1 | ⟨g, n, cap, cur, h1, hg, hnc, hcm, hcs, hmk, hj⟩
  · exact ⟨none, 0, 0, h1, Nat.le_refl _, Nat.zero_le _, fun _ => ⟨rfl, rfl⟩, fun ad h => by cases h⟩
  · refine ⟨some ⟨g, 0, none⟩, n, cap, h1, hnc, hcm, fun h => (by cases h), fun ad had => ?_⟩
    obtain rfl := Option.some.inj had
    refine ⟨rfl, rfl, fun j hj2 => ?_⟩
    rw [cell_of_row w g j cur e (0, 0) hg]
    exact hj j hj2

theorem take_mark {cur : Array Value} {m : Value} {n j : Nat} (hc : n < cur.size) (h : j ≤ n) (hj : ∀ i, i < n → cur[i]? = some m) : (cur.toList.take n ++ [m] ++ cur.toList.drop (n + 1)).toArray[j]? = some m := by
  have hl : (cur.toList.take n).length = n := by simp; omega
  rw [List.getElem?_toArray, List.append_assoc]
  by_cases hjn : j < n
  · rw [List.getElem?_append_left (by omega), List.getElem?_take, if_pos hjn]
    simpa using hj j hjn
  · have : j = n := by omega
    subst this
    rw [List.getElem?_append_right (by omega), hl, Nat.sub_self]
    rfl

theorem take_keep {cur : Array Value} {m : Value} {n j : Nat} (hc : n < cur.size) (hjm : cur[j]? = some m) : (cur.toList.take n ++ [m] ++ cur.toList.drop (n + 1)).toArray[j]? = some m := by
  have hl : (cur.toList.take n).length = n := by simp; omega
  rw [List.getElem?_toArray, List.append_assoc]
  rcases Nat.lt_trichotomy j n with h | h | h
  · rw [List.getElem?_append_left (by omega), List.getElem?_take, if_pos h]
    simpa using hjm
  · subst h
    rw [List.getElem?_append_right (by omega), hl, Nat.sub_self]
    rfl
  · rw [List.getElem?_append_right (by omega), hl, List.getElem?_append_right (by simp; omega), List.getElem?_drop]
    simp only [List.length_cons, List.length_nil, Nat.zero_add]
    rw [show n + 1 + (j - n - 1) = j by omega]
    simpa using hjm

/-- One more of its mark is put behind one of them. -/
theorem St.poolRun {P : Program} {t : TypeId} {z : Value} {bytes : Nat} (E : Elem P t e z 1 bytes) (ty : TypeId) {m : Value} {ao : Option Addr} {n cap : Nat} (hS : St c (pool e l :: R) w) (hv : (.slice ao n cap, m) ∈ l)
    (a : Addr) (cp : Nat) (hnew : w.cell? a = some m) (h1 : m.oneCell' = true) (h63 : n + 1 ≤ maxLen) (hbytes : (n + 1) * bytes ≤ 140737488355328) :
    ∃ g' cp' w', (Builtin.append_ #[t, t] ty #[.slice ao n cap, .slice (some a) 1 cp]).run P w = .ok (.slice (some ⟨g', 0, none⟩) (n + 1) cp') w' ∧ n + 1 ≤ cp' ∧ St c (pool e ((.slice (some ⟨g', 0, none⟩) (n + 1) cp', m) :: l) :: R) w' := by
  obtain ⟨i, hi, hz0, hz1, hz2⟩ := info_parts E.hi
  have hnews : ∀ j u, [m][j]? = some u → w.cell? (a.add j) = some u := by
    intro j u hj
    match j, hj with
    | 0, hj =>
      simp at hj
      subst hj
      rw [show a.add 0 = a by cases a; rename_i b o s; cases s <;> simp [Addr.add]]
      exact hnew
  have ho1 : ∀ u ∈ [m], u.oneCell' = true := by intro u hu; simp at hu; subst hu; exact h1
  have h63i : ((n + 1 : Nat) : Int) ≤ 9223372036854775807 := by simp only [maxLen] at h63; omega
  obtain ⟨F, ⟨F1, F2, ⟨⟨mk, hm⟩, hlt⟩, hR, hd, hu⟩, hF, hK⟩ := id hS
  -- a block of its own
  have fresh : ∀ (olds : List Value) (cp' : Nat) (arr : Array Value), arr.size = cp' → n + 1 ≤ cp' → cp' ≤ maxLen → (∀ j, j < n + 1 → arr[j]? = some m) →
      St c (pool e ((.slice (some ⟨w.heap.size, 0, none⟩) (n + 1) cp', m) :: l) :: R) (w.drew.alloc (.cells arr e)) := by
    intro _ cp' arr hs1 hs2 hs3 hs4
    refine hS.step (fun F k => F k ∨ k = w.heap.size) (fun F hF => ⟨⟨?_, ?_⟩, fun k hk => hk.imp id fun e => by omega⟩) rfl rfl rfl (by simp) ?_
    · obtain ⟨⟨mk, hm⟩, hlt⟩ := hF
      refine ⟨fun g => if g = w.heap.size then m else mk g, fun p hp => ?_⟩
      rcases List.mem_cons.1 hp with rfl | hp
      · refine ⟨.inr ⟨w.heap.size, n + 1, cp', arr, rfl, heap_alloc_new w.drew _, hs2, hs3, hs1, by simp, hs4⟩, fun g hg => ?_⟩
        simp only [Value.ownBlock, Option.some.injEq] at hg
        exact .inr hg.symm
      · obtain ⟨h1, h2⟩ := hm p hp
        refine ⟨?_, fun g hg => .inl (h2 g hg)⟩
        rcases h1 with h1 | ⟨g, n', cap, cur, hv', hg, hnc, hcm, hcs, hmk, hj⟩
        · exact .inl h1
        · have hlt' := hlt g (h2 g (by rw [hv']; rfl))
          refine .inr ⟨g, n', cap, cur, hv', (Below.heap_alloc w.drew _ g hlt').trans hg, hnc, hcm, hcs, ?_, hj⟩
          simp only [if_neg (show ¬ g = w.heap.size by omega)]
          exact hmk
    · rintro k (hk | rfl)
      · exact Nat.lt_of_lt_of_le (hF.2 k hk) (by simp)
      · simp
    · intro F hF k hk hn
      exact Below.heap_alloc w.drew _ k hk
  rcases (hm _ hv).1 with h2 | ⟨g, n', cap', cur, h2, hg, hnc, hcm, hcs, hmk, hj⟩
  · simp only [Value.slice.injEq] at h2
    obtain ⟨rfl, rfl, rfl⟩ := h2
    have hr := run_append_nil (P := P) w t ty e i z E.ht hi hz0 a 1 cp [m] (by rw [hz1]; rfl) hnews (by omega) (by omega) (by rw [hz2]; omega)
    have hge := grownCap_ge w 1 0 e
    refine ⟨_, _, _, hr, hge, fresh [] _ _ ?_ hge (grownCap_le_maxLen w 1 0 e h63) fun j hj => ?_⟩
    · simp only [Array.size_append, List.size_toArray, size_zeroCells, E.hz, List.length_cons, List.length_nil]
      omega
    · have : j = 0 := by omega
      subst this
      rw [Array.getElem?_append_left (by simp)]
      rfl
  · simp only [Value.slice.injEq] at h2
    obtain ⟨rfl, rfl, rfl⟩ := h2
    by_cases hroom : n + 1 ≤ cap
    · have hr := run_append_room (P := P) w t ty e i E.ht hi g n cap cur hg a 1 cp [m] (by rw [hz1]; rfl) hnews ho1 hroom (by rw [hz1]; simp; omega)
      rw [hz1] at hr
      simp only [Nat.mul_one, List.length_cons, List.length_nil, Nat.zero_add] at hr
      refine ⟨g, cap, _, hr, hroom, ?_⟩
      refine hS.step (fun F k => F k) (fun F hF => ⟨⟨?_, fun k hk => ?_⟩, fun k hk => .inl hk⟩) rfl rfl rfl (by simp [World.setRow]) ?_
      · obtain ⟨⟨mk, hm⟩, hlt⟩ := hF
        obtain ⟨hM, hF'⟩ := hm _ hv
        rcases hM with h2 | ⟨g2, n2, cap2, cur2, h2, hg2, _, _, hcs2, hmk2, hj2⟩
        · simp at h2
        simp only [Value.slice.injEq, Option.some.injEq, Addr.mk.injEq, and_true, true_and] at h2
        obtain ⟨rfl, rfl, rfl⟩ := h2
        rw [hg] at hg2
        simp only [Option.some.injEq, Obj.cells.injEq, and_true, true_and] at hg2
        subst hg2
        refine ⟨mk, fun p hp => ?_⟩
        have hset := setRow_heap w g cur (cur.toList.take n ++ [m] ++ cur.toList.drop (n + 1)).toArray e _ hg
        have hsz : (cur.toList.take n ++ [m] ++ cur.toList.drop (n + 1)).toArray.size = cap := by
          simp only [List.size_toArray, List.length_append, List.length_take, List.length_drop, Array.length_toList, List.length_cons, List.length_nil]
          omega
        rcases List.mem_cons.1 hp with rfl | hp
        · exact ⟨.inr ⟨g, n + 1, cap, _, rfl, hset, hroom, hcm, hsz, hmk2, fun j hj => take_mark (by omega) (by omega) hj2⟩, hF'⟩
        · obtain ⟨h3, h4⟩ := hm p hp
          refine ⟨?_, h4⟩
          rcases h3 with h3 | ⟨g3, n3, cap3, cur3, hv3, hg3, hnc3, hcm3, hcs3, hmk3, hj3⟩
          · exact .inl h3
          · by_cases heq : g3 = g
            · subst heq
              rw [hg] at hg3
              simp only [Option.some.injEq, Obj.cells.injEq, and_true, true_and] at hg3
              subst hg3
              have hmm : p.2 = m := hmk3.symm.trans hmk2
              exact .inr ⟨g3, n3, cap3, _, hv3, hset, hnc3, hcm3, by omega, hmk3, fun j hj => by rw [hmm]; exact take_keep (by omega) (by rw [← hmm]; exact hj3 j hj)⟩
            · exact .inr ⟨g3, n3, cap3, cur3, hv3, (setRow_other w g g3 _ heq).trans hg3, hnc3, hcm3, hcs3, hmk3, hj3⟩
      · have := hF.2 k hk
        simpa [World.setRow] using this
      · intro F hF k hk hn
        obtain ⟨⟨mk, hm⟩, hlt⟩ := hF
        exact setRow_other w g k _ (fun e => hn (by subst e; exact (hm _ hv).2 k rfl))
    · have holds : ∀ j u, (List.replicate n m)[j]? = some u → w.cell? ((⟨g, 0, none⟩ : Addr).add j) = some u := by
        intro j u hju
        rw [List.getElem?_replicate] at hju
        split at hju
        · rename_i hjn
          rw [Addr.add_lit, Nat.zero_add, cell_of_row w g j cur e (0, 0) hg, hj j hjn]
          exact hju
        · cases hju
      have hr := run_append_grow (P := P) w t ty e i z E.ht hi hz0 ⟨g, 0, none⟩ n cap (List.replicate n m) (by rw [hz1]; simp) holds a 1 cp [m] (by rw [hz1]; rfl) hnews (by omega) h63i (growslice_fits (by omega) (by rw [hz2]; exact hbytes))
      have hge := grownCap_ge w (n + 1) cap e
      refine ⟨_, _, _, hr, hge, fresh [] _ _ ?_ hge (grownCap_le_maxLen w (n + 1) cap e h63) fun j hj => ?_⟩
      · simp only [Array.size_append, List.size_toArray, size_zeroCells, E.hz, List.length_cons, List.length_nil, List.length_replicate]
        omega
      · rw [Array.getElem?_append_left (by simp; omega)]
        have e1 : (List.replicate n m).toArray ++ [m].toArray = (List.replicate (n + 1) m).toArray := by
          rw [List.append_toArray, ← List.replicate_succ']
        rw [e1]
        simp [hj]
end

end Go.Proofs.Ythpkdephkhcgmaa
