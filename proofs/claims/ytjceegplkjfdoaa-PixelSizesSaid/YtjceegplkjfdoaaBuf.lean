import Derived.Test.YtjceegplkjfdoaaSl
/-! A buffer: a row with room behind, all of its cells told. -/
namespace Go.Proofs.Ytjceegplkjfdoaa
set_option linter.unusedSimpArgs false
set_option linter.unusedVariables false
open Go Go.RowKit

section
variable {c : Ctx} {R : List HP} {w : World}
theorem St.setRowB {g : Nat} {cs : List Value} {T : TypeId} (h : St c (blk g cs T :: R) w) (cs' : List Value) : St c (blk g cs' T :: R) (w.setRow g cs'.toArray) := by
  refine h.step (fun F => F) (fun F hF => ⟨⟨setRow_heap w g _ _ T _ hF.1, hF.2⟩, fun k hk => .inl hk⟩) rfl rfl rfl (by simp) ?_
  intro F hF k hk hn
  exact setRow_other w g k _ (fun e => hn ((hF.2 k).2 e))

/-- make([]T, 0, n), elements of one cell. -/
theorem St.makeBuf {P : Program} {ops : Array Oper} {rest : List Oper} {o : Oper} {a : Act} {Q : Exit → Act → World → Prop} (hgd : o.guard = none) (lo co : Operand) (t : TypeId)
    (ho : o.op = Op.makeSlice t lo co) {e : TypeId} {z : Value} {bytes : Nat} (E : Elem P t e z 1 bytes) (hz : z.cells = #[z]) {kl kc : IntKind} (n : Nat)
    (hl : a.eval lo = .int kl 0) (hc : a.eval co = .int kc n) (hS : St c R w) (hb : bytes * n ≤ 281474976710656) (hb2 : n ≤ maxLen)
    (h : ∀ g w', St c (blk g (List.replicate n z) e :: R) w' → wpList P ops Q rest (a.put o.dst (.slice (some ⟨g, 0, none⟩) 0 n)) w') : wpList P ops Q (o :: rest) a w := by
  obtain ⟨i, hi, hz0, hz1, hz2⟩ := info_parts E.hi
  refine wpList_plain hgd fun K hK => ?_
  have hb' : (i.bytes : Int) * (n : Int) ≤ 281474976710656 := by
    have h : ((i.bytes * n : Nat) : Int) ≤ 281474976710656 := by rw [hz2]; omega
    rwa [Int.natCast_mul] at h
  have hrun := run_make (P := P) w t e i z E.ht hi hz0 kl kc 0 n (Int.le_refl _) (by omega) hb' (by unfold maxLen at hb2; omega)
  unfold Oper.wp
  simp [execOp, ho, hl, hc, hrun, Result.andThen]
  refine hK _ _ (h _ _ ?_)
  have := hS.alloc (List.replicate n z) e
  rw [show (List.replicate n z).toArray = madeCells z.cells (n * i.size) by rw [hz, hz1, Nat.mul_one, ← toList_madeCells_one, Array.toArray_toList]] at this
  exact this

/-- An append that has room. -/
theorem St.appendBuf {P : Program} {ops : Array Oper} {rest : List Oper} {o : Oper} {a : Act} {Q : Exit → Act → World → Prop} (hgd : o.guard = none) (s x : Operand) (t : TypeId)
    (ho : o.op = .call { callee := .builtin .append, args := #[s, x], argTypes := #[t, t] }) {e : TypeId} {z : Value} {bytes : Nat} (E : Elem P t e z 1 bytes)
    {g n cap : Nat} {cs : List Value} (hs : a.eval s = .slice (some ⟨g, 0, none⟩) n cap) (hS : St c (blk g cs e :: R) w)
    (ad : Addr) (m cp : Nat) (news : List Value) (hx : a.eval x = .slice (some ad) m cp) (hl : news.length = m)
    (hnews : ∀ j u, news[j]? = some u → w.cell? (ad.add j) = some u) (h1 : ∀ u ∈ news, u.oneCell' = true)
    (hr : n + m ≤ cap) (hf : n + m ≤ cs.length)
    (h : ∀ w', St c (blk g (cs.take n ++ news ++ cs.drop (n + m)) e :: R) w' → wpList P ops Q rest (a.put o.dst (.slice (some ⟨g, 0, none⟩) (n + m) cap)) w') : wpList P ops Q (o :: rest) a w := by
  obtain ⟨i, hi, hz0, hz1, hz2⟩ := info_parts E.hi
  refine wpList_plain hgd fun K hK => ?_
  have hrun := run_append_room (P := P) w t o.type e i E.ht hi g n cap cs.toArray hS.blk_at ad m cp news (by rw [hz1]; omega) hnews h1 hr (by rw [hz1]; simp; omega)
  unfold Oper.wp execOp
  simp only [ho, resolve, invoke, builtin, Sem.run_bind, Sem.run_pure, Result.andThen_ok, List.map_toArray, List.map_cons, List.map_nil, hs, hx, hrun]
  refine hK _ _ (h _ ?_)
  simp only [hz1, Nat.mul_one, hl]
  exact hS.setRowB _
end

end Go.Proofs.Ytjceegplkjfdoaa
