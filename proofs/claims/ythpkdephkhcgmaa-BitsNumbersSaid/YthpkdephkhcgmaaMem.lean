import Derived.Test.YthpkdephkhcgmaaProg
import Derived.Test.YthpkdephkhcgmaaMat
import Derived.Test.YthpkdephkhcgmaaKArg
import Derived.Lib.Hide
import Derived.WalkSpells
import Derived.BigRegion
import Derived.Deep.QuietTactic
import Derived.BigQuiet
/-! Lists that are lent: words. -/
namespace Go.Proofs.Ythpkdephkhcgmaa
set_option linter.unusedSimpArgs false
set_option linter.unusedVariables false
open Go Go.RowKit Go.Proofs.YthpkdephkhcgmaaW.PrintWords

/-- What was made beside what there was. -/
theorem St.frame {c : Ctx} {L R : List HP} {w w' : World} (h : St c R w) (h' : St (Go.Proofs.Ythpkdephkhcgmaa.top w) L w') : St c (L ++ R) w' := by
  obtain ⟨F, h1, h2, h3⟩ := h
  obtain ⟨G, k1, k2, k3⟩ := h'
  have hG : ∀ b, G b → w.heap.size ≤ b := fun b hb => (k2 b hb).elim (fun h => h.elim) id
  have hblk : ∀ b, b < w.heap.size → w'.heap[b]? = w.heap[b]? := fun b hb => k3.block b hb (fun h => h)
  refine ⟨fun b => G b ∨ F b, (Sep.append_on L R w' _).2 ⟨G, F, k1, (Sep R).loc h1 fun b hb => hblk b ((Sep R).lt h1 hb), fun b hg hf => ?_, fun _ => Iff.rfl⟩, ?_, ⟨k3.os.trans h3.os, k3.tape.trans h3.tape, k3.output.trans h3.output, Nat.le_trans h3.size k3.size, fun b h4 h5 => ?_⟩⟩
  · have := hG b hg; have := (Sep R).lt h1 hf; omega
  · rintro b (hb | hb)
    · exact .inr (Nat.le_trans h3.size (hG b hb))
    · exact h2 b hb
  · rw [hblk b (Nat.lt_of_lt_of_le h4 h3.size), h3.block b h4 h5]

/-- copy into a row of the call's own, of what is read. -/
theorem St.copyC {c : Ctx} {R : List HP} {w : World} {P : Program} {ops : Array Oper} {rest : List Oper} {o : Oper} {a : Act} {Q : Exit → Act → World → Prop} (hgd : o.guard = none) (d x : Operand) (dT sT : TypeId)
    (ho : o.op = .call { callee := .builtin .copy, args := #[d, x], argTypes := #[dT, sT] }) {e : TypeId} {z : Value} {bytes : Nat} (E : Elem P dT e z 1 bytes)
    {g off dLen dCap n cap : Nat} {xs ys : List Value} {ao : Option Addr} {m cp : Nat} (hd : a.eval d = .slice (some ⟨g, off, none⟩) dLen dCap) (hx : a.eval x = .slice ao m cp) (hm : ys.length = m)
    (hr : 0 < m → ∃ ad, ao = some ad ∧ ∀ j u, ys[j]? = some u → w.cell? (ad.add j) = some u) (h1 : ∀ v ∈ ys, v.oneCell' = true)
    (hS : St c (row e 1 (.slice (some ⟨g, 0, none⟩) n cap) n xs :: R) w) (hfit : off + dLen ≤ n)
    (h : ∀ w', St c (row e 1 (.slice (some ⟨g, 0, none⟩) n cap) n (xs.take off ++ (ys.take dLen ++ xs.drop (off + (ys.take dLen).length))) :: R) w' → wpList P ops Q rest (a.put o.dst (goInt (ys.take dLen).length)) w') :
    wpList P ops Q (o :: rest) a w := by
  obtain ⟨i, hi, hz0, hz1, hz2⟩ := info_parts E.hi
  have hlen : (ys.take dLen).length = Nat.min m dLen := by rw [List.length_take, hm, Nat.min_comm]
  have hrow := hS.row_at
  by_cases hm0 : 0 < m
  · obtain ⟨ad, rfl, ha⟩ := hr hm0
    rcases hrow.2 with ⟨h', _⟩ | ⟨g', cap', cur, h', hb, hg, hnc, hcm, hcs, htake⟩
    · simp at h'
    · simp only [Value.slice.injEq, Option.some.injEq, Addr.mk.injEq, and_true, true_and] at h'
      obtain ⟨rfl, rfl⟩ := h'
      have hk : (ys.take dLen).length ≤ dLen := by rw [List.length_take]; omega
      have hsz : off + (ys.take dLen).length ≤ cur.size := by rw [hcs]; omega
      refine wpList_copy_own hgd d x dT sT ho e E.ht (by rw [hi]; simp [hz1]) g off dLen dCap ad m cp hd hx cur e hg (ys.take dLen) hlen ?_ hsz ?_ ?_
      · intro j v hj
        have := ha j v
        rw [List.getElem?_take] at hj
        split at hj
        · exact this hj
        · cases hj
      · intro v hv
        exact h1 v (List.mem_of_mem_take hv)
      · refine h _ (hS.regrown ?_ ⟨rfl, rfl, rfl, by simp [World.setRow], fun k _ hk => setRow_other w g k _ (fun e => hk (by simp [Value.ownBlock, e]))⟩ fun k hk => .inl hk)
        have hxl : xs.length = n := by simpa using hrow.1
        refine ⟨by simp [hxl]; omega, .inr ⟨g, cap, _, rfl, hb, setRow_heap w g cur _ e _ hg, hnc, hcm, ?_, ?_⟩⟩
        · simp only [List.size_toArray, List.length_append, List.length_take, List.length_drop, Array.length_toList]
          simp at hsz
          omega
        · rw [← htake]
          have hcl : cur.toList.length = cap := by simpa using hcs
          simp only [Nat.mul_one]
          exact splice_take _ _ _ _ (by omega) (by omega)
  · have hys : ys = [] := List.eq_nil_of_length_eq_zero (by omega)
    subst hys
    obtain rfl : m = 0 := by omega
    refine wpList_copy_nothing hgd d x dT sT ho e E.ht (by rw [hi]; simp [hz1]) (some ⟨g, off, none⟩) ao dLen dCap 0 cp hd hx (by simp) ?_
    have := h w (by simpa using hS)
    simp only [List.take_nil, List.length_nil] at this
    exact this

theorem nums_one (k : IntKind) (l : List Int) : ∀ v ∈ nums k l, v.oneCell' = true := by
  intro v hv
  obtain ⟨_, _, rfl⟩ := List.mem_map.1 hv
  rfl

/-- A row of numbers that is read, by its cells. -/
theorem C_reads {k : IntKind} {w : World} {A : Option Addr} {l : List Int} (h : Kd.C (Kd.int k) w A l.length l) (h0 : 0 < l.length) : ∃ b off, A = some ⟨b, off, none⟩ ∧ ∀ j, j < l.length → w.cell? ⟨b, off + j, none⟩ = some (.int k (l.getD j 0)) := by
  obtain ⟨ad, rfl, hc⟩ := h.2.2 h0
  have key : ∀ j, j < l.length → w.cell? (ad.add j) = some (.int k (l.getD j 0)) := by
    intro j hj
    obtain ⟨c, _, hk, hcell⟩ := hc j (l.getD j 0) (by rw [List.getD_eq_getElem?_getD, List.getElem?_eq_getElem hj]; rfl)
    have hk' : c = [.int k (l.getD j 0)] := hk
    have := hcell 0 (.int k (l.getD j 0)) (by rw [hk']; rfl)
    simpa [Kd.int, Kd.scalar] using this
  have k0 := key 0 h0
  have hsp : ad.spot = none := by
    have := spot_of_cell k0
    simpa [Addr.add] using this
  obtain ⟨b, off, sp⟩ := ad
  simp only at hsp
  subst hsp
  refine ⟨b, off, rfl, fun j hj => ?_⟩
  have := key j hj
  rwa [Addr.add_lit] at this

/-- A row of rows that is read, by its cells. -/
theorem C_rowAt {k : IntKind} {t : TypeId} {w : World} {A : Option Addr} {ls : List (List Int)} (h : Kd.C (Kd.slice t (Kd.int k)) w A ls.length ls) (i : Nat) (hi : i < ls.length) :
    ∃ b off A' cap, A = some ⟨b, off, none⟩ ∧ w.cell? ⟨b, off + i, none⟩ = some (.slice A' (ls.getD i []).length cap) ∧ (ls.getD i []).length ≤ cap ∧ Kd.C (Kd.int k) w A' (ls.getD i []).length (ls.getD i []) := by
  obtain ⟨ad, rfl, hc⟩ := h.2.2 (by omega)
  obtain ⟨c, _, hk, hcell⟩ := hc i (ls.getD i []) (by rw [List.getD_eq_getElem?_getD, List.getElem?_eq_getElem hi]; rfl)
  obtain ⟨A', cap, rfl, hle, hC⟩ := hk
  have h1 := hcell 0 _ rfl
  simp only [Nat.add_zero, Kd.slice, Nat.mul_one] at h1
  have hsp : ad.spot = none := by
    have := spot_of_cell h1
    unfold Addr.add at this
    split at this
    · exact this
    · rename_i h0
      obtain ⟨c0, _, hk0, hcell0⟩ := hc 0 (ls.getD 0 []) (by rw [List.getD_eq_getElem?_getD, List.getElem?_eq_getElem (by omega)]; rfl)
      obtain ⟨A0, cap0, rfl, _, _⟩ := hk0
      have h2 := hcell0 0 _ rfl
      have := spot_of_cell h2
      simpa [Addr.add, Kd.slice] using this
  obtain ⟨b, off, sp⟩ := ad
  simp only at hsp
  subst hsp
  exact ⟨b, off, A', cap, rfl, by rwa [Addr.add_lit] at h1, hle, hC⟩

/-! What is lent -/
theorem nums_at (k : IntKind) (l : List Int) (j : Nat) (h : j < l.length) : (nums k l)[j]? = some (.int k (l.getD j 0)) := by
  rw [nums, List.getElem?_map, List.getElem?_eq_getElem h, List.getD_eq_getElem?_getD, List.getElem?_eq_getElem h]; rfl
theorem nums_set (k : IntKind) (l : List Int) (j : Nat) (v : Int) : (nums k l).set j (.int k v) = nums k (l.set j v) := by
  simp [nums, List.map_set]

end Go.Proofs.Ythpkdephkhcgmaa
