import Derived.Test.YthpkdephkhcgmaaBitsL
namespace Go.Proofs.Ythpkdephkhcgmaa
set_option linter.unusedSimpArgs false
set_option linter.unusedVariables false
open Go Go.RowKit

/-- What Get comes to, at a width that may be: the number, the error, the place behind. -/
def getR (bs : List Nat) (at_ n : Nat) : Nat × Nat × Nat := if at_ + n ≤ 8 * bs.length then (num (bitsAt bs at_ n), 0, at_ + n) else (0, 13, at_)

theorem Get_gen (c : Ctx) (R : List HP) (g : Nat) (bs : List Nat) (at_ n r e a2 : Nat) (w : World) (hS : St c (reader g bs at_ :: R) w) (hn : n ≤ 32) (ha : at_ ≤ 8 * bs.length) (hb : bs.length ≤ 140737488355328) (hbs : ∀ b ∈ bs, b < 256) (hr : getR bs at_ n = (r, e, a2)) :
    Calls Try.prog 24 #[.pointer (some ⟨g, 0, none⟩), .int .i64 (n : Nat)] w fun e' w' => e' = .returned (.tuple #[.int .u32 (r : Nat), .int .i64 (e : Nat)]) ∧ St c (reader g bs a2 :: R) w' := by
  unfold getR at hr
  split at hr
  · rename_i h
    simp only [Prod.mk.injEq] at hr
    obtain ⟨rfl, rfl, rfl⟩ := hr
    exact Get_ok c R g bs at_ n w hS hn h hb hbs
  · rename_i h
    simp only [Prod.mk.injEq] at hr
    obtain ⟨rfl, rfl, rfl⟩ := hr
    refine (Get_end c R g bs at_ n w hS hn ha (by omega) hb).mono ?_
    rintro e' w' ⟨rfl, hq⟩
    exact ⟨rfl, hS.of_quiet hq⟩

theorem num_append (a b : List Bool) : num (a ++ b) = num a * 2 ^ b.length + num b := by
  have : ∀ (b : List Bool) (x : Nat), List.foldl (fun a b => 2 * a + b2n b) x b = x * 2 ^ b.length + num b := by
    intro b
    induction b with
    | nil => intro x; simp [num]
    | cons c b ih =>
      intro x
      have h1 := ih (2 * x + b2n c)
      have h2 := ih (2 * 0 + b2n c)
      simp only [List.foldl_cons, num, List.length_cons] at *
      rw [h1, h2, Nat.pow_succ]
      simp only [Nat.mul_zero, Nat.zero_add, Nat.add_mul, Nat.add_assoc]
      congr 1
      rw [Nat.mul_comm (2 ^ b.length) 2, ← Nat.mul_assoc, Nat.mul_comm x 2]
  unfold num
  rw [List.foldl_append]
  exact this b _

theorem bitsAt_append (bs : List Nat) (a p q : Nat) : bitsAt bs a (p + q) = bitsAt bs a p ++ bitsAt bs (a + p) q := by
  unfold bitsAt
  rw [List.range_add, List.map_append, List.map_map]
  congr 1
  apply List.map_congr_left
  intro i _
  simp [Nat.add_assoc]

def JoinsIs (xs : List Value) (p : List Nat × Value × Int × Int × Int × Int) : Prop := True

theorem wf_hid {x : Int} (h : (Lit.int .i64 x).wf = true) : Hid ((Lit.int .i64 x).wf = true) := h

theorem arg_joins {H : Type} {enc : TypeId × Value → H} {W : World} {base : Nat} {v0 : Value} (a0 : Arg enc Try.prog W base 55 v0) :
    ∃ (vb : Value) (bs : List Nat) (x1 x2 x3 x4 : Int), v0 = .agg #[vb, .int .i64 x1, .int .i64 x2, .int .i64 x3, .int .i64 x4] ∧ Reads W vb (bytesV bs) ∧ (∀ b ∈ bs, b < 256) ∧ bs.length ≤ 140737488355328 ∧
      (Lit.int .i64 x1).wf = true ∧ (Lit.int .i64 x2).wf = true ∧ (Lit.int .i64 x3).wf = true ∧ (Lit.int .i64 x4).wf = true := by
  obtain ⟨cs, rfl, hl, hf⟩ := arg_struct Try.underlying55 a0
  have hlen : cs.length = 5 := hl.trans (by kernel_rfl)
  have c0 : Try.prog.cellsOf 24 = 1 := by kernel_rfl
  have c1 : Try.prog.cellsOf 3 = 1 := by kernel_rfl
  match cs, hlen with
  | [y0, y1, y2, y3, y4], _ =>
    have e0 := hf 0 _ rfl
    have e1 := hf 1 _ rfl
    have e2 := hf 2 _ rfl
    have e3 := hf 3 _ rfl
    have e4 := hf 4 _ rfl
    obtain ⟨n1, q1, w1⟩ := ok_int (k := .i64) Try.underlying3 e1
    obtain ⟨n2, q2, w2⟩ := ok_int (k := .i64) Try.underlying3 e2
    obtain ⟨n3, q3, w3⟩ := ok_int (k := .i64) Try.underlying3 e3
    obtain ⟨n4, q4, w4⟩ := ok_int (k := .i64) Try.underlying3 e4
    simp [c1] at q1 q2 q3 q4
    have e0' : Ok enc Try.prog W 24 [y0] := by simpa [c0] using e0
    obtain ⟨bs, h1, h2, h3⟩ := ok_bytes Try.underlying24 Try.underlying5 (by kernel_rfl) (by kernel_rfl) e0'
    subst q1; subst q2; subst q3; subst q4
    refine ⟨y0, bs, n1, n2, n3, n4, rfl, h1, h2, ?_, w1, w2, w3, w4⟩
    have : reachBytes = 140737488351232 := rfl
    omega

theorem pick_is_I (x ni : Int) (n r : Nat) (w : World) (hx : (Lit.int .i64 x).wf = true) (hn : 0 < n) (hni : ni = n) (hr : pickN x n = r) :
    Calls Try.prog 17 #[.int .i64 x, .int .i64 ni] w fun e w' => e = .returned (.int .i64 (r : Nat)) ∧ w = w' := by
  subst hni
  exact pick_is x n r w hx hn hr

theorem Get_genI (c : Ctx) (R : List HP) (g : Nat) (bs : List Nat) (at_ n r e a2 : Nat) (ni : Int) (w : World) (hS : St c (reader g bs at_ :: R) w) (hni : ni = n) (hn : n ≤ 32) (ha : at_ ≤ 8 * bs.length) (hb : bs.length ≤ 140737488355328) (hbs : ∀ b ∈ bs, b < 256) (hr : getR bs at_ n = (r, e, a2)) :
    Calls Try.prog 24 #[.pointer (some ⟨g, 0, none⟩), .int .i64 ni] w fun e' w' => e' = .returned (.tuple #[.int .u32 (r : Nat), .int .i64 (e : Nat)]) ∧ St c (reader g bs a2 :: R) w' := by
  subst hni
  exact Get_gen c R g bs at_ n r e a2 w hS hn ha hb hbs hr

/-- The three ways of two numbers taken one behind the other: what the law's test asks. -/
theorem joins_ways (bs : List Nat) (a0 p q : Nat) (ha : a0 ≤ 8 * bs.length) (hpq : p + q ≤ 32) {u i ax v j ax2 w o ay : Nat} (h1 : getR bs a0 p = (u, i, ax)) (h2 : getR bs ax q = (v, j, ax2)) (h3 : getR bs a0 (p + q) = (w, o, ay)) :
    ax ≤ 8 * bs.length ∧ ax2 ≤ 8 * bs.length ∧ ay ≤ 8 * bs.length ∧
    ((p + q ≤ 8 * bs.length - a0 ∧ i = 0 ∧ j = 0 ∧ o = 0 ∧ u * 2 ^ q + v = w ∧ u < 2 ^ p ∧ v < 2 ^ q) ∨ (8 * bs.length - a0 < p + q ∧ o = 13 ∧ i = 13) ∨ (8 * bs.length - a0 < p + q ∧ o = 13 ∧ i = 0 ∧ j = 13)) := by
  unfold getR at h1 h2 h3
  by_cases hp : a0 + p ≤ 8 * bs.length
  · rw [if_pos hp] at h1
    simp only [Prod.mk.injEq] at h1
    obtain ⟨rfl, rfl, rfl⟩ := h1
    by_cases hq : a0 + p + q ≤ 8 * bs.length
    · rw [if_pos hq] at h2
      rw [if_pos (by omega)] at h3
      simp only [Prod.mk.injEq] at h2 h3
      obtain ⟨rfl, rfl, rfl⟩ := h2
      obtain ⟨rfl, rfl, rfl⟩ := h3
      refine ⟨hp, by omega, by omega, .inl ⟨by omega, rfl, rfl, rfl, ?_, ?_, ?_⟩⟩
      · rw [bitsAt_append, num_append, bitsAt_length]
      · have := num_lt (bitsAt bs a0 p); rwa [bitsAt_length] at this
      · have := num_lt (bitsAt bs (a0 + p) q); rwa [bitsAt_length] at this
    · rw [if_neg hq] at h2
      rw [if_neg (by omega)] at h3
      simp only [Prod.mk.injEq] at h2 h3
      obtain ⟨rfl, rfl, rfl⟩ := h2
      obtain ⟨rfl, rfl, rfl⟩ := h3
      exact ⟨hp, by omega, ha, .inr (.inr ⟨by omega, rfl, rfl, rfl⟩)⟩
  · rw [if_neg hp] at h1
    rw [if_neg (by omega)] at h3
    simp only [Prod.mk.injEq] at h1 h3
    obtain ⟨rfl, rfl, rfl⟩ := h1
    obtain ⟨rfl, rfl, rfl⟩ := h3
    have hax : ax2 ≤ 8 * bs.length := by
      split at h2 <;> simp only [Prod.mk.injEq] at h2 <;> omega
    exact ⟨ha, hax, ha, .inr (.inl ⟨by omega, rfl, rfl⟩)⟩

theorem getR_first (bs : List Nat) (k : Nat) {r e a : Nat} (h : getR bs 0 k = (r, e, a)) : a ≤ 8 * bs.length ∧ ((e : Int) == 0) = decide (k ≤ 8 * bs.length) := by
  unfold getR at h
  by_cases hk : 0 + k ≤ 8 * bs.length
  · rw [if_pos hk] at h
    simp only [Prod.mk.injEq] at h
    obtain ⟨_, rfl, rfl⟩ := h
    exact ⟨hk, by rw [decide_eq_true (by omega)]; rfl⟩
  · rw [if_neg hk] at h
    simp only [Prod.mk.injEq] at h
    obtain ⟨_, rfl, rfl⟩ := h
    exact ⟨Nat.zero_le _, by rw [decide_eq_false (by omega)]; rfl⟩

theorem mem1 {α : Type} {a b : α} : b ∈ [a, b] := List.mem_cons_of_mem _ (List.mem_cons_self ..)
theorem mem2 {α : Type} {a b c : α} : c ∈ [a, b, c] := List.mem_cons_of_mem _ mem1
theorem mem3 {α : Type} {a b c d : α} : d ∈ [a, b, c, d] := List.mem_cons_of_mem _ mem2
theorem mem4 {α : Type} {a b c d e : α} : e ∈ [a, b, c, d, e] := List.mem_cons_of_mem _ mem3

def ZSum (bs : List Nat) (a0 n zz rz hz az : Nat) : Prop :=
  zz ≤ n ∧ a0 + zz ≤ 8 * bs.length ∧ (∀ j, j < zz → ubit bs (a0 + j) = false) ∧
    ((zz = n ∧ zz = rz ∧ hz = 0 ∧ a0 + zz = az) ∨
     (zz < n ∧ a0 + zz = 8 * bs.length ∧ rz = 0 ∧ hz = 13 ∧ a0 = az) ∨
     (zz < n ∧ a0 + zz < 8 * bs.length ∧ ubit bs (a0 + zz) = true ∧ zz = rz ∧ hz = 0 ∧ a0 + zz + 1 = az))

theorem Zeros_sum (c : Ctx) (R : List HP) (g : Nat) (bs : List Nat) (at_ most : Nat) (w : World) (hS : St c (reader g bs at_ :: R) w) (hn : most ≤ 32) (ha : at_ ≤ 8 * bs.length) (hb : bs.length ≤ 140737488355328) (hbs : ∀ b ∈ bs, b < 256) :
    Calls Try.prog 26 #[.pointer (some ⟨g, 0, none⟩), .int .i64 (most : Nat)] w fun e w' => ∃ zz rz hz az : Nat, e = .returned (.tuple #[.int .i64 (rz : Nat), .int .i64 (hz : Nat)]) ∧ Hid (ZSum bs at_ most zz rz hz az) ∧ St c (reader g bs az :: R) w' := by
  refine (Zeros_any c R g bs at_ most w hS hn ha hb hbs).mono ?_
  rintro e w' ⟨z, hz, h0, ⟨h1, h2, rfl, h4⟩ | ⟨h1, h2, rfl, m, rfl⟩ | ⟨h1, h2, h3, rfl, h5⟩⟩
  · exact ⟨z, z, 0, at_ + z, rfl, ⟨hz, h2, h0, .inl ⟨h1, rfl, rfl, rfl⟩⟩, h4⟩
  · exact ⟨z, 0, 13, at_, rfl, ⟨hz, by omega, h0, .inr (.inl ⟨h1, h2, rfl, rfl, rfl⟩)⟩, hS.drewN m⟩
  · exact ⟨z, z, 0, at_ + z + 1, rfl, ⟨hz, by omega, h0, .inr (.inr ⟨h1, h2, h3, rfl, rfl, rfl⟩)⟩, h5⟩

theorem join_fact {p q u v y : Nat} (hpq : p + q ≤ 32) (h : u * 2 ^ q + v = y ∧ u < 2 ^ p ∧ v < 2 ^ q) :
    (IntKind.u64.wrap (IntKind.u64.wrap (IntKind.u64.wrap (u : Int) * 2 ^ q) + IntKind.u64.wrap (v : Int)) != IntKind.u64.wrap (y : Int)) = false := by
  obtain ⟨h1, h2, h3⟩ := h
  have e1 : 2 ^ p * 2 ^ q ≤ 2 ^ 32 := by rw [← Nat.pow_add]; exact Nat.pow_le_pow_right (by decide) hpq
  have e2 : 2 ^ p ≤ 2 ^ 32 := Nat.pow_le_pow_right (by decide) (by omega)
  have e3 : 2 ^ q ≤ 2 ^ 32 := Nat.pow_le_pow_right (by decide) (by omega)
  have e4 : u * 2 ^ q ≤ 2 ^ p * 2 ^ q := Nat.mul_le_mul_right _ (Nat.le_of_lt h2)
  have e5 : ((2 : Int) ^ q) = ((2 ^ q : Nat) : Int) := by push_cast; rfl
  have hw1 : IntKind.u64.wrap (u : Int) = (u : Int) := by rw [IntKind.wrap_u64]; omega
  have hw2 : IntKind.u64.wrap (v : Int) = (v : Int) := by rw [IntKind.wrap_u64]; omega
  rw [hw1, hw2, e5]
  generalize hm : 2 ^ q = m at *
  have e6 : ((u : Int) * (m : Int)) = ((u * m : Nat) : Int) := by push_cast; rfl
  rw [e6]
  generalize u * m = um at *
  rw [bne_eq_false_iff_eq, IntKind.wrap_u64, IntKind.wrap_u64, IntKind.wrap_u64]
  omega

theorem getR_one (bs : List Nat) (a j : Nat) (b : Bool) (h : a + j < 8 * bs.length) (hb : ubit bs (a + j) = b) : getR bs (a + j) 1 = (b2n b, 0, a + (j + 1)) := by
  unfold getR
  rw [if_pos (by omega), show (1 : Nat) = 0 + 1 from rfl, bitsAt_succ, Nat.add_zero, hb, Nat.add_assoc]
  cases b <;> rfl
theorem getR_none (bs : List Nat) (a j : Nat) (h : a + j = 8 * bs.length) : getR bs (a + j) 1 = (0, 13, a + j) := by
  unfold getR
  rw [if_neg (by omega)]

set_option maxHeartbeats 16000000 in
set_option maxRecDepth 100000 in
theorem bitsJoins_walk {H : Type} {enc : TypeId × Value → H} (W : World) (base : Nat) (v0 : Value) (a0 : Arg enc Try.prog W base 55 v0) :
    Calls Try.prog 7 #[v0] W fun e W' => e = .returned (.bool true) ∧ Below W.heap.size W W' := by
  obtain ⟨vb, bs, x1, x2, x3, x4, rfl, hr, hbs, hlen, w1, w2, w3, w4⟩ := arg_joins a0
  clear a0
  obtain ⟨ao, m, cap, rfl, hc, hm0, -, -⟩ := id hr
  have hm : m = bs.length := by simpa [bytesV] using hm0
  clear hm0
  subst hm
  obtain ⟨k, hk⟩ : ∃ k, pickN x1 33 = k := ⟨_, rfl⟩
  have hk33 : k < 33 := by rw [← hk]; exact pickN_lt x1 33 (by decide)
  obtain ⟨n, hn⟩ : ∃ n, pickN x4 33 = n := ⟨_, rfl⟩
  have hn33 : n < 33 := by rw [← hn]; exact pickN_lt x4 33 (by decide)
  obtain ⟨p, hp⟩ : ∃ p, pickN x2 33 = p := ⟨_, rfl⟩
  have hp33 : p < 33 := by rw [← hp]; exact pickN_lt x2 33 (by decide)
  obtain ⟨q, hq⟩ : ∃ q, pickN x3 (33 - p) = q := ⟨_, rfl⟩
  have hq33 : q < 33 - p := by rw [← hq]; exact pickN_lt x3 (33 - p) (by omega)
  obtain ⟨r0, e0, a0, hg0⟩ : ∃ r e a, getR bs 0 k = (r, e, a) := ⟨_, _, _, rfl⟩
  obtain ⟨u, i, ax, hg1⟩ : ∃ r e a, getR bs a0 p = (r, e, a) := ⟨_, _, _, rfl⟩
  obtain ⟨v, j, ax2, hg2⟩ : ∃ r e a, getR bs ax q = (r, e, a) := ⟨_, _, _, rfl⟩
  obtain ⟨y, o, ay, hg3⟩ : ∃ r e a, getR bs a0 (p + q) = (r, e, a) := ⟨_, _, _, rfl⟩
  obtain ⟨ha0, he0'⟩ := getR_first bs k hg0
  obtain ⟨D, hD⟩ : ∃ D, decide (k ≤ 8 * bs.length) = D := ⟨_, rfl⟩
  have he0 : ((e0 : Int) == 0) = D := he0'.trans hD
  have hk0 : decide ((k : Int) ≤ 8 * (bs.length : Int)) = D := by rw [← hD]; congr 1; exact propext ⟨fun h => by omega, fun h => by omega⟩
  clear hD he0'
  obtain ⟨hax, hax2, hay, hways⟩ := joins_ways bs a0 p q ha0 (by omega) hg1 hg2 hg3
  obtain ⟨L, hL⟩ : ∃ L, 8 * bs.length - a0 = L := ⟨_, rfl⟩
  rw [hL] at hways
  have G0 := Lib.hid hg0
  have G1 := Lib.hid hg1
  have G2 := Lib.hid hg2
  have G3 := Lib.hid hg3
  have K := Lib.hid hk
  have N := Lib.hid hn
  have PP := Lib.hid hp
  have QQ := Lib.hid hq
  have W1 := wf_hid w1
  have W2 := wf_hid w2
  have W3 := wf_hid w3
  have W4 := wf_hid w4
  have HL := Lib.hid hL
  have HR := Lib.hid hr
  have HB := Lib.hid hbs
  have HWAYS := Lib.hid hways
  have HLN := Lib.hid hlen
  clear hg0 hg1 hg2 hg3 hk hn hp hq w1 w2 w3 w4 hL hr hbs hways
  have H := Lib.hid ((St.top W).alloc [.slice ao bs.length cap, .int .i64 x1, .int .i64 x2, .int .i64 x3, .int .i64 x4] 55)
  have f0 := St.cell_mem H.out (List.mem_cons_self ..) 0 _ rfl
  have f1 := St.cell_mem H.out (List.mem_cons_self ..) 1 _ rfl
  have f2 := St.cell_mem H.out (List.mem_cons_self ..) 2 _ rfl
  have f3 := St.cell_mem H.out (List.mem_cons_self ..) 3 _ rfl
  have f4 := St.cell_mem H.out (List.mem_cons_self ..) 4 _ rfl
  go_enter Try.func7, Try.ntmps7
  go_wp2_with (first
    | (go_at_call 8; go_must (with_reducible refine (alive_ok (top W) _ _ H.out).mono ?_); rintro e w1 ⟨rfl, hS⟩; simp only []; clear H f0 f1 f2 f3 f4; have H := Lib.hid hS; clear hS; have f0 := St.cell_mem H.out (by first | exact List.mem_cons_self .. | exact mem1 | exact mem2 | exact mem3 | exact mem4) 0 _ rfl; have f1 := St.cell_mem H.out (by first | exact List.mem_cons_self .. | exact mem1 | exact mem2 | exact mem3 | exact mem4) 1 _ rfl; have f2 := St.cell_mem H.out (by first | exact List.mem_cons_self .. | exact mem1 | exact mem2 | exact mem3 | exact mem4) 2 _ rfl; have f3 := St.cell_mem H.out (by first | exact List.mem_cons_self .. | exact mem1 | exact mem2 | exact mem3 | exact mem4) 3 _ rfl; have f4 := St.cell_mem H.out (by first | exact List.mem_cons_self .. | exact mem1 | exact mem2 | exact mem3 | exact mem4) 4 _ rfl)
    | (go_at_call 22; with_reducible refine (NewReader_ok (top W) [blk W.heap.size _ _] _ bs _ H.out (Rd.of_arg HR.out) HLN.out).mono ?_; rintro e w2 ⟨gx, rfl, hS⟩; simp only []; clear H f0 f1 f2 f3 f4; have H := Lib.hid hS; clear hS; have f0 := St.cell_mem H.out (by first | exact List.mem_cons_self .. | exact mem1 | exact mem2 | exact mem3 | exact mem4) 0 _ rfl; have f1 := St.cell_mem H.out (by first | exact List.mem_cons_self .. | exact mem1 | exact mem2 | exact mem3 | exact mem4) 1 _ rfl; have f2 := St.cell_mem H.out (by first | exact List.mem_cons_self .. | exact mem1 | exact mem2 | exact mem3 | exact mem4) 2 _ rfl; have f3 := St.cell_mem H.out (by first | exact List.mem_cons_self .. | exact mem1 | exact mem2 | exact mem3 | exact mem4) 3 _ rfl; have f4 := St.cell_mem H.out (by first | exact List.mem_cons_self .. | exact mem1 | exact mem2 | exact mem3 | exact mem4) 4 _ rfl)
    | (go_at_call 22; with_reducible refine (NewReader_ok (top W) [reader gx bs 0, blk W.heap.size _ _] _ bs _ H.out (Rd.of_arg HR.out) HLN.out).mono ?_; rintro e w3 ⟨gy, rfl, hS⟩; simp only []; clear H f0 f1 f2 f3 f4; have H := Lib.hid hS; clear hS; have f0 := St.cell_mem H.out (by first | exact List.mem_cons_self .. | exact mem1 | exact mem2 | exact mem3 | exact mem4) 0 _ rfl; have f1 := St.cell_mem H.out (by first | exact List.mem_cons_self .. | exact mem1 | exact mem2 | exact mem3 | exact mem4) 1 _ rfl; have f2 := St.cell_mem H.out (by first | exact List.mem_cons_self .. | exact mem1 | exact mem2 | exact mem3 | exact mem4) 2 _ rfl; have f3 := St.cell_mem H.out (by first | exact List.mem_cons_self .. | exact mem1 | exact mem2 | exact mem3 | exact mem4) 3 _ rfl; have f4 := St.cell_mem H.out (by first | exact List.mem_cons_self .. | exact mem1 | exact mem2 | exact mem3 | exact mem4) 4 _ rfl)
    | (go_at_call 22; with_reducible refine (NewReader_ok (top W) [reader gy bs 0, reader gx bs 0, blk W.heap.size _ _] _ bs _ H.out (Rd.of_arg HR.out) HLN.out).mono ?_; rintro e w4 ⟨gz, rfl, hS⟩; simp only []; clear H f0 f1 f2 f3 f4; have H := Lib.hid hS; clear hS; have f0 := St.cell_mem H.out (by first | exact List.mem_cons_self .. | exact mem1 | exact mem2 | exact mem3 | exact mem4) 0 _ rfl; have f1 := St.cell_mem H.out (by first | exact List.mem_cons_self .. | exact mem1 | exact mem2 | exact mem3 | exact mem4) 1 _ rfl; have f2 := St.cell_mem H.out (by first | exact List.mem_cons_self .. | exact mem1 | exact mem2 | exact mem3 | exact mem4) 2 _ rfl; have f3 := St.cell_mem H.out (by first | exact List.mem_cons_self .. | exact mem1 | exact mem2 | exact mem3 | exact mem4) 3 _ rfl; have f4 := St.cell_mem H.out (by first | exact List.mem_cons_self .. | exact mem1 | exact mem2 | exact mem3 | exact mem4) 4 _ rfl)
    | (go_at_call 17; with_reducible refine (pick_is_I x1 33 33 k _ W1.out (by decide) rfl K.out).mono ?_; rintro e w5 ⟨rfl, rfl⟩; simp only [])
    | (go_at_call 24; with_reducible refine (Get_gen (top W) _ gx bs 0 k r0 e0 a0 _ H.out.rot3 (by omega) (by omega) HLN.out HB.out G0.out).mono ?_; rintro e w6 ⟨rfl, hS⟩; simp only []; clear H f0 f1 f2 f3 f4; have H := Lib.hid hS.back3; clear hS; have f0 := St.cell_mem H.out (by first | exact List.mem_cons_self .. | exact mem1 | exact mem2 | exact mem3 | exact mem4) 0 _ rfl; have f1 := St.cell_mem H.out (by first | exact List.mem_cons_self .. | exact mem1 | exact mem2 | exact mem3 | exact mem4) 1 _ rfl; have f2 := St.cell_mem H.out (by first | exact List.mem_cons_self .. | exact mem1 | exact mem2 | exact mem3 | exact mem4) 2 _ rfl; have f3 := St.cell_mem H.out (by first | exact List.mem_cons_self .. | exact mem1 | exact mem2 | exact mem3 | exact mem4) 3 _ rfl; have f4 := St.cell_mem H.out (by first | exact List.mem_cons_self .. | exact mem1 | exact mem2 | exact mem3 | exact mem4) 4 _ rfl)
    | (go_at_call 24; with_reducible refine (Get_gen (top W) _ gy bs 0 k r0 e0 a0 _ H.out.swap (by omega) (by omega) HLN.out HB.out G0.out).mono ?_; rintro e w6 ⟨rfl, hS⟩; simp only []; clear H f0 f1 f2 f3 f4; have H := Lib.hid hS.swap; clear hS; have f0 := St.cell_mem H.out (by first | exact List.mem_cons_self .. | exact mem1 | exact mem2 | exact mem3 | exact mem4) 0 _ rfl; have f1 := St.cell_mem H.out (by first | exact List.mem_cons_self .. | exact mem1 | exact mem2 | exact mem3 | exact mem4) 1 _ rfl; have f2 := St.cell_mem H.out (by first | exact List.mem_cons_self .. | exact mem1 | exact mem2 | exact mem3 | exact mem4) 2 _ rfl; have f3 := St.cell_mem H.out (by first | exact List.mem_cons_self .. | exact mem1 | exact mem2 | exact mem3 | exact mem4) 3 _ rfl; have f4 := St.cell_mem H.out (by first | exact List.mem_cons_self .. | exact mem1 | exact mem2 | exact mem3 | exact mem4) 4 _ rfl)
    | (go_at_call 24; with_reducible refine (Get_gen (top W) _ gz bs 0 k r0 e0 a0 _ H.out (by omega) (by omega) HLN.out HB.out G0.out).mono ?_; rintro e w6 ⟨rfl, hS⟩; simp only []; clear H f0 f1 f2 f3 f4; have H := Lib.hid hS; clear hS; have f0 := St.cell_mem H.out (by first | exact List.mem_cons_self .. | exact mem1 | exact mem2 | exact mem3 | exact mem4) 0 _ rfl; have f1 := St.cell_mem H.out (by first | exact List.mem_cons_self .. | exact mem1 | exact mem2 | exact mem3 | exact mem4) 1 _ rfl; have f2 := St.cell_mem H.out (by first | exact List.mem_cons_self .. | exact mem1 | exact mem2 | exact mem3 | exact mem4) 2 _ rfl; have f3 := St.cell_mem H.out (by first | exact List.mem_cons_self .. | exact mem1 | exact mem2 | exact mem3 | exact mem4) 3 _ rfl; have f4 := St.cell_mem H.out (by first | exact List.mem_cons_self .. | exact mem1 | exact mem2 | exact mem3 | exact mem4) 4 _ rfl)
    | (go_at_call 17; with_reducible refine (pick_is_I x4 33 33 n _ W4.out (by decide) rfl N.out).mono ?_; rintro e w5 ⟨rfl, rfl⟩; simp only [])
    | (go_at_call 17; with_reducible refine (pick_is_I x2 33 33 p _ W2.out (by decide) rfl PP.out).mono ?_; rintro e w5 ⟨rfl, rfl⟩; simp only [])
    | (go_at_call 17; with_reducible refine (pick_is_I x3 _ (33 - p) q _ W3.out (by omega) (by omega) QQ.out).mono ?_; rintro e w5 ⟨rfl, rfl⟩; simp only [])
    | (go_at_call 26; go_must (with_reducible refine (Zeros_sum (top W) _ gz bs a0 n _ H.out (by omega) (by omega) HLN.out HB.out).mono ?_); rintro e w6 ⟨zz, rz, hz, az, rfl, ZS, hS⟩; simp only []; clear H f0 f1 f2 f3 f4; have H := Lib.hid hS; clear hS; have f0 := St.cell_mem H.out (by first | exact List.mem_cons_self .. | exact mem1 | exact mem2 | exact mem3 | exact mem4) 0 _ rfl; have f1 := St.cell_mem H.out (by first | exact List.mem_cons_self .. | exact mem1 | exact mem2 | exact mem3 | exact mem4) 1 _ rfl; have f2 := St.cell_mem H.out (by first | exact List.mem_cons_self .. | exact mem1 | exact mem2 | exact mem3 | exact mem4) 2 _ rfl; have f3 := St.cell_mem H.out (by first | exact List.mem_cons_self .. | exact mem1 | exact mem2 | exact mem3 | exact mem4) 3 _ rfl; have f4 := St.cell_mem H.out (by first | exact List.mem_cons_self .. | exact mem1 | exact mem2 | exact mem3 | exact mem4) 4 _ rfl)
    | (go_at_call 23; go_must (with_reducible refine (Left_is (top W) _ gx bs a0 L _ H.out.rot3 (by omega) HLN.out HL.out).mono ?_); rintro e w6 ⟨rfl, hq⟩; simp only []; have H2 := Lib.hid (H.out.of_quiet hq); clear H hq f0 f1 f2 f3 f4; have H := H2; clear H2; have f0 := St.cell_mem H.out (by first | exact List.mem_cons_self .. | exact mem1 | exact mem2 | exact mem3 | exact mem4) 0 _ rfl; have f1 := St.cell_mem H.out (by first | exact List.mem_cons_self .. | exact mem1 | exact mem2 | exact mem3 | exact mem4) 1 _ rfl; have f2 := St.cell_mem H.out (by first | exact List.mem_cons_self .. | exact mem1 | exact mem2 | exact mem3 | exact mem4) 2 _ rfl; have f3 := St.cell_mem H.out (by first | exact List.mem_cons_self .. | exact mem1 | exact mem2 | exact mem3 | exact mem4) 3 _ rfl; have f4 := St.cell_mem H.out (by first | exact List.mem_cons_self .. | exact mem1 | exact mem2 | exact mem3 | exact mem4) 4 _ rfl))
  rcases HWAYS.out with ⟨d1, rfl, rfl, rfl, d5, d6, d7⟩ | ⟨d1, rfl, rfl⟩ | ⟨d1, rfl, rfl, rfl⟩
  case inl =>
    have hpq : decide ((p : Int) + (q : Int) ≤ (L : Int)) = true := decide_eq_true (by omega)
    have hjf := join_fact (by omega) ⟨d5, d6, d7⟩
    clear d5 d6 d7 HWAYS
    go_wp2_with (first
      | (go_at_call 24; with_reducible refine (Get_genI (top W) _ gx bs a0 p u _ ax _ _ H.out.rot3 rfl (by omega) ha0 HLN.out HB.out G1.out).mono ?_; rintro e w6 ⟨rfl, hS⟩; simp only []; clear H f0 f1 f2 f3 f4; have H := Lib.hid hS.back3; clear hS; have f0 := St.cell_mem H.out (by first | exact List.mem_cons_self .. | exact mem1 | exact mem2 | exact mem3 | exact mem4) 0 _ rfl; have f1 := St.cell_mem H.out (by first | exact List.mem_cons_self .. | exact mem1 | exact mem2 | exact mem3 | exact mem4) 1 _ rfl; have f2 := St.cell_mem H.out (by first | exact List.mem_cons_self .. | exact mem1 | exact mem2 | exact mem3 | exact mem4) 2 _ rfl; have f3 := St.cell_mem H.out (by first | exact List.mem_cons_self .. | exact mem1 | exact mem2 | exact mem3 | exact mem4) 3 _ rfl; have f4 := St.cell_mem H.out (by first | exact List.mem_cons_self .. | exact mem1 | exact mem2 | exact mem3 | exact mem4) 4 _ rfl)
      | (go_at_call 24; with_reducible refine (Get_genI (top W) _ gx bs ax q v _ ax2 _ _ H.out.rot3 rfl (by omega) hax HLN.out HB.out G2.out).mono ?_; rintro e w6 ⟨rfl, hS⟩; simp only []; clear H f0 f1 f2 f3 f4; have H := Lib.hid hS.back3; clear hS; have f0 := St.cell_mem H.out (by first | exact List.mem_cons_self .. | exact mem1 | exact mem2 | exact mem3 | exact mem4) 0 _ rfl; have f1 := St.cell_mem H.out (by first | exact List.mem_cons_self .. | exact mem1 | exact mem2 | exact mem3 | exact mem4) 1 _ rfl; have f2 := St.cell_mem H.out (by first | exact List.mem_cons_self .. | exact mem1 | exact mem2 | exact mem3 | exact mem4) 2 _ rfl; have f3 := St.cell_mem H.out (by first | exact List.mem_cons_self .. | exact mem1 | exact mem2 | exact mem3 | exact mem4) 3 _ rfl; have f4 := St.cell_mem H.out (by first | exact List.mem_cons_self .. | exact mem1 | exact mem2 | exact mem3 | exact mem4) 4 _ rfl)
      | (go_at_call 24; with_reducible refine (Get_genI (top W) _ gy bs a0 (p + q) y _ ay _ _ H.out.swap (by omega) (by omega) ha0 HLN.out HB.out G3.out).mono ?_; rintro e w6 ⟨rfl, hS⟩; simp only []; clear H f0 f1 f2 f3 f4; have H := Lib.hid hS.swap; clear hS; have f0 := St.cell_mem H.out (by first | exact List.mem_cons_self .. | exact mem1 | exact mem2 | exact mem3 | exact mem4) 0 _ rfl; have f1 := St.cell_mem H.out (by first | exact List.mem_cons_self .. | exact mem1 | exact mem2 | exact mem3 | exact mem4) 1 _ rfl; have f2 := St.cell_mem H.out (by first | exact List.mem_cons_self .. | exact mem1 | exact mem2 | exact mem3 | exact mem4) 2 _ rfl; have f3 := St.cell_mem H.out (by first | exact List.mem_cons_self .. | exact mem1 | exact mem2 | exact mem3 | exact mem4) 3 _ rfl; have f4 := St.cell_mem H.out (by first | exact List.mem_cons_self .. | exact mem1 | exact mem2 | exact mem3 | exact mem4) 4 _ rfl)
      | (go_at_call 22; go_must (with_reducible refine (NewReader_ok (top W) _ _ bs _ H.out (Rd.of_arg HR.out) HLN.out).mono ?_); rintro e w2 ⟨gs, rfl, hS⟩; simp only []; clear H f0 f1 f2 f3 f4; have H := Lib.hid hS; clear hS)
      | (go_at_call 24; with_reducible refine (Get_gen (top W) _ gs bs 0 k r0 e0 a0 _ H.out (by omega) (by omega) HLN.out HB.out G0.out).mono ?_; rintro e w6 ⟨rfl, hS⟩; simp only []; clear H; have H := Lib.hid hS; clear hS))
    go_loopw [18, 31, 32] (fun seen _ _ w' => ∃ j : Nat, j ≤ zz ∧ j ≤ n ∧ seen = .int .i64 (j : Nat) ∧ Hid (St (top W) [reader gs bs (a0 + j), reader gz bs az, reader gy bs ay, reader gx bs ax2, blk W.heap.size [.slice ao bs.length cap, .int .i64 x1, .int .i64 x2, .int .i64 x3, .int .i64 x4] 55] w')) (fun seen _ _ _ => n - (intOf seen).toNat)
    case atStart => exact ⟨0, by omega, by omega, by simp, H⟩
    case round =>
      obtain ⟨j, hjz, hjn, rfl, hS⟩ := hrel
      clear H
      have H := Lib.hid hS.out
      clear hS
      by_cases hj : j < n
      · by_cases hz' : j < zz
        · obtain ⟨z1, z2, z3, z4⟩ := ZS.out
          have hb : getR bs (a0 + j) 1 = (0, 0, a0 + (j + 1)) := getR_one bs a0 j false (by omega) (z3 j hz')
          have HB1 := Lib.hid hb
          clear hb z4 z3
          go_wp2_with (go_at_call 24; go_must (with_reducible refine (Get_genI (top W) _ gs bs (a0 + j) 1 0 0 (a0 + (j + 1)) (1 : Int) _ H.out rfl (by omega) (by omega) HLN.out HB.out HB1.out).mono ?_); rintro e w6 ⟨rfl, hS⟩; simp only []; clear H; have H := Lib.hid hS; clear hS)
          go_roundw
          case rel => exact ⟨j + 1, by omega, by omega, by go_num, H⟩
          case measure => simp [intOf]; omega
        · rcases ZS.out with ⟨z1, z2, -, ⟨z4, -, -, -⟩ | ⟨z4, z5, rfl, rfl, rfl⟩ | ⟨z4, z5, z6, rfl, rfl, rfl⟩⟩
          · omega
          · obtain rfl : j = zz := by omega
            have hb := getR_none bs a0 j z5
            have HB1 := Lib.hid hb
            clear hb ZS
            go_wp2_with (first
              | (go_at_call 24; go_must (with_reducible refine (Get_genI (top W) _ gs bs (a0 + j) 1 0 13 (a0 + j) (1 : Int) _ H.out rfl (by omega) (by omega) HLN.out HB.out HB1.out).mono ?_); rintro e w6 ⟨rfl, hS⟩; simp only []; clear H; have H := Lib.hid hS; clear hS)
              | (go_at_call 23; go_must (with_reducible refine (Left_is (top W) _ gz bs _ L _ H.out.swap (by omega) HLN.out HL.out).mono ?_); rintro e w6 ⟨rfl, hq⟩; simp only []; have H2 := Lib.hid (H.out.of_quiet hq); clear H hq; have H := H2; clear H2))
            go_ret
            exact ⟨rfl, H.out.below⟩
          · obtain rfl : j = zz := by omega
            have hb : getR bs (a0 + j) 1 = (1, 0, a0 + (j + 1)) := getR_one bs a0 j true (by omega) z6
            have HB1 := Lib.hid hb
            obtain ⟨L2, hL2⟩ : ∃ L, 8 * bs.length - (a0 + j + 1) = L := ⟨_, rfl⟩
            have HL2 := Lib.hid hL2
            clear hb ZS hL2 z6
            go_wp2_with (first
              | (go_at_call 24; go_must (with_reducible refine (Get_genI (top W) _ gs bs (a0 + j) 1 1 0 (a0 + (j + 1)) (1 : Int) _ H.out rfl (by omega) (by omega) HLN.out HB.out HB1.out).mono ?_); rintro e w6 ⟨rfl, hS⟩; simp only []; clear H; have H := Lib.hid hS; clear hS)
              | (go_at_call 23; with_reducible refine (Left_is (top W) _ gz bs _ L2 _ H.out.swap (by omega) HLN.out HL2.out).mono ?_; rintro e w6 ⟨rfl, hq⟩; simp only []; have H2 := Lib.hid (H.out.of_quiet hq); clear H hq; have H := H2; clear H2)
              | (go_at_call 23; with_reducible refine (Left_is (top W) _ gs bs _ L2 _ H.out (by omega) HLN.out (by have := HL2.out; omega)).mono ?_; rintro e w6 ⟨rfl, hq⟩; simp only []; have H2 := Lib.hid (H.out.of_quiet hq); clear H hq; have H := H2; clear H2))
            go_ret
            exact ⟨rfl, H.out.below⟩
      · rcases ZS.out with ⟨z1, z2, -, ⟨z4, rfl, rfl, rfl⟩ | ⟨z4, -⟩ | ⟨z4, -⟩⟩
        · obtain rfl : j = zz := by omega
          obtain rfl : j = n := by omega
          obtain ⟨L2, hL2⟩ : ∃ L, 8 * bs.length - (a0 + j) = L := ⟨_, rfl⟩
          have HL2 := Lib.hid hL2
          clear ZS hL2
          go_wp2_with (first
            | (go_at_call 23; with_reducible refine (Left_is (top W) _ gz bs _ L2 _ H.out.swap (by omega) HLN.out HL2.out).mono ?_; rintro e w6 ⟨rfl, hq⟩; simp only []; have H2 := Lib.hid (H.out.of_quiet hq); clear H hq; have H := H2; clear H2)
            | (go_at_call 23; with_reducible refine (Left_is (top W) _ gs bs _ L2 _ H.out (by omega) HLN.out (by have := HL2.out; omega)).mono ?_; rintro e w6 ⟨rfl, hq⟩; simp only []; have H2 := Lib.hid (H.out.of_quiet hq); clear H hq; have H := H2; clear H2))
          go_ret
          exact ⟨rfl, H.out.below⟩
        · omega
        · omega
  all_goals
    have hpq : decide ((p : Int) + (q : Int) ≤ (L : Int)) = false := decide_eq_false (by omega)
    clear HWAYS
    go_wp2_with (first
      | (go_at_call 24; with_reducible refine (Get_genI (top W) _ gx bs a0 p u _ ax _ _ H.out.rot3 rfl (by omega) ha0 HLN.out HB.out G1.out).mono ?_; rintro e w6 ⟨rfl, hS⟩; simp only []; clear H f0 f1 f2 f3 f4; have H := Lib.hid hS.back3; clear hS; have f0 := St.cell_mem H.out (by first | exact List.mem_cons_self .. | exact mem1 | exact mem2 | exact mem3 | exact mem4) 0 _ rfl; have f1 := St.cell_mem H.out (by first | exact List.mem_cons_self .. | exact mem1 | exact mem2 | exact mem3 | exact mem4) 1 _ rfl; have f2 := St.cell_mem H.out (by first | exact List.mem_cons_self .. | exact mem1 | exact mem2 | exact mem3 | exact mem4) 2 _ rfl; have f3 := St.cell_mem H.out (by first | exact List.mem_cons_self .. | exact mem1 | exact mem2 | exact mem3 | exact mem4) 3 _ rfl; have f4 := St.cell_mem H.out (by first | exact List.mem_cons_self .. | exact mem1 | exact mem2 | exact mem3 | exact mem4) 4 _ rfl)
      | (go_at_call 24; with_reducible refine (Get_genI (top W) _ gx bs ax q v _ ax2 _ _ H.out.rot3 rfl (by omega) hax HLN.out HB.out G2.out).mono ?_; rintro e w6 ⟨rfl, hS⟩; simp only []; clear H f0 f1 f2 f3 f4; have H := Lib.hid hS.back3; clear hS; have f0 := St.cell_mem H.out (by first | exact List.mem_cons_self .. | exact mem1 | exact mem2 | exact mem3 | exact mem4) 0 _ rfl; have f1 := St.cell_mem H.out (by first | exact List.mem_cons_self .. | exact mem1 | exact mem2 | exact mem3 | exact mem4) 1 _ rfl; have f2 := St.cell_mem H.out (by first | exact List.mem_cons_self .. | exact mem1 | exact mem2 | exact mem3 | exact mem4) 2 _ rfl; have f3 := St.cell_mem H.out (by first | exact List.mem_cons_self .. | exact mem1 | exact mem2 | exact mem3 | exact mem4) 3 _ rfl; have f4 := St.cell_mem H.out (by first | exact List.mem_cons_self .. | exact mem1 | exact mem2 | exact mem3 | exact mem4) 4 _ rfl)
      | (go_at_call 24; with_reducible refine (Get_genI (top W) _ gy bs a0 (p + q) y _ ay _ _ H.out.swap (by omega) (by omega) ha0 HLN.out HB.out G3.out).mono ?_; rintro e w6 ⟨rfl, hS⟩; simp only []; clear H f0 f1 f2 f3 f4; have H := Lib.hid hS.swap; clear hS; have f0 := St.cell_mem H.out (by first | exact List.mem_cons_self .. | exact mem1 | exact mem2 | exact mem3 | exact mem4) 0 _ rfl; have f1 := St.cell_mem H.out (by first | exact List.mem_cons_self .. | exact mem1 | exact mem2 | exact mem3 | exact mem4) 1 _ rfl; have f2 := St.cell_mem H.out (by first | exact List.mem_cons_self .. | exact mem1 | exact mem2 | exact mem3 | exact mem4) 2 _ rfl; have f3 := St.cell_mem H.out (by first | exact List.mem_cons_self .. | exact mem1 | exact mem2 | exact mem3 | exact mem4) 3 _ rfl; have f4 := St.cell_mem H.out (by first | exact List.mem_cons_self .. | exact mem1 | exact mem2 | exact mem3 | exact mem4) 4 _ rfl)
      | (go_at_call 22; go_must (with_reducible refine (NewReader_ok (top W) _ _ bs _ H.out (Rd.of_arg HR.out) HLN.out).mono ?_); rintro e w2 ⟨gs, rfl, hS⟩; simp only []; clear H f0 f1 f2 f3 f4; have H := Lib.hid hS; clear hS)
      | (go_at_call 24; with_reducible refine (Get_gen (top W) _ gs bs 0 k r0 e0 a0 _ H.out (by omega) (by omega) HLN.out HB.out G0.out).mono ?_; rintro e w6 ⟨rfl, hS⟩; simp only []; clear H; have H := Lib.hid hS; clear hS))
    go_loopw [18, 31, 32] (fun seen _ _ w' => ∃ j : Nat, j ≤ zz ∧ j ≤ n ∧ seen = .int .i64 (j : Nat) ∧ Hid (St (top W) [reader gs bs (a0 + j), reader gz bs az, reader gy bs ay, reader gx bs ax2, blk W.heap.size [.slice ao bs.length cap, .int .i64 x1, .int .i64 x2, .int .i64 x3, .int .i64 x4] 55] w')) (fun seen _ _ _ => n - (intOf seen).toNat)
    case atStart => exact ⟨0, by omega, by omega, by simp, H⟩
    case round =>
      obtain ⟨j, hjz, hjn, rfl, hS⟩ := hrel
      clear H
      have H := Lib.hid hS.out
      clear hS
      by_cases hj : j < n
      · by_cases hz' : j < zz
        · obtain ⟨z1, z2, z3, z4⟩ := ZS.out
          have hb : getR bs (a0 + j) 1 = (0, 0, a0 + (j + 1)) := getR_one bs a0 j false (by omega) (z3 j hz')
          have HB1 := Lib.hid hb
          clear hb z4 z3
          go_wp2_with (go_at_call 24; go_must (with_reducible refine (Get_genI (top W) _ gs bs (a0 + j) 1 0 0 (a0 + (j + 1)) (1 : Int) _ H.out rfl (by omega) (by omega) HLN.out HB.out HB1.out).mono ?_); rintro e w6 ⟨rfl, hS⟩; simp only []; clear H; have H := Lib.hid hS; clear hS)
          go_roundw
          case rel => exact ⟨j + 1, by omega, by omega, by go_num, H⟩
          case measure => simp [intOf]; omega
        · rcases ZS.out with ⟨z1, z2, -, ⟨z4, -, -, -⟩ | ⟨z4, z5, rfl, rfl, rfl⟩ | ⟨z4, z5, z6, rfl, rfl, rfl⟩⟩
          · omega
          · obtain rfl : j = zz := by omega
            have hb := getR_none bs a0 j z5
            have HB1 := Lib.hid hb
            clear hb ZS
            go_wp2_with (first
              | (go_at_call 24; go_must (with_reducible refine (Get_genI (top W) _ gs bs (a0 + j) 1 0 13 (a0 + j) (1 : Int) _ H.out rfl (by omega) (by omega) HLN.out HB.out HB1.out).mono ?_); rintro e w6 ⟨rfl, hS⟩; simp only []; clear H; have H := Lib.hid hS; clear hS)
              | (go_at_call 23; go_must (with_reducible refine (Left_is (top W) _ gz bs _ L _ H.out.swap (by omega) HLN.out HL.out).mono ?_); rintro e w6 ⟨rfl, hq⟩; simp only []; have H2 := Lib.hid (H.out.of_quiet hq); clear H hq; have H := H2; clear H2))
            go_ret
            exact ⟨rfl, H.out.below⟩
          · obtain rfl : j = zz := by omega
            have hb : getR bs (a0 + j) 1 = (1, 0, a0 + (j + 1)) := getR_one bs a0 j true (by omega) z6
            have HB1 := Lib.hid hb
            obtain ⟨L2, hL2⟩ : ∃ L, 8 * bs.length - (a0 + j + 1) = L := ⟨_, rfl⟩
            have HL2 := Lib.hid hL2
            clear hb ZS hL2 z6
            go_wp2_with (first
              | (go_at_call 24; go_must (with_reducible refine (Get_genI (top W) _ gs bs (a0 + j) 1 1 0 (a0 + (j + 1)) (1 : Int) _ H.out rfl (by omega) (by omega) HLN.out HB.out HB1.out).mono ?_); rintro e w6 ⟨rfl, hS⟩; simp only []; clear H; have H := Lib.hid hS; clear hS)
              | (go_at_call 23; with_reducible refine (Left_is (top W) _ gz bs _ L2 _ H.out.swap (by omega) HLN.out HL2.out).mono ?_; rintro e w6 ⟨rfl, hq⟩; simp only []; have H2 := Lib.hid (H.out.of_quiet hq); clear H hq; have H := H2; clear H2)
              | (go_at_call 23; with_reducible refine (Left_is (top W) _ gs bs _ L2 _ H.out (by omega) HLN.out (by have := HL2.out; omega)).mono ?_; rintro e w6 ⟨rfl, hq⟩; simp only []; have H2 := Lib.hid (H.out.of_quiet hq); clear H hq; have H := H2; clear H2))
            go_ret
            exact ⟨rfl, H.out.below⟩
      · rcases ZS.out with ⟨z1, z2, -, ⟨z4, rfl, rfl, rfl⟩ | ⟨z4, -⟩ | ⟨z4, -⟩⟩
        · obtain rfl : j = zz := by omega
          obtain rfl : j = n := by omega
          obtain ⟨L2, hL2⟩ : ∃ L, 8 * bs.length - (a0 + j) = L := ⟨_, rfl⟩
          have HL2 := Lib.hid hL2
          clear ZS hL2
          go_wp2_with (first
            | (go_at_call 23; with_reducible refine (Left_is (top W) _ gz bs _ L2 _ H.out.swap (by omega) HLN.out HL2.out).mono ?_; rintro e w6 ⟨rfl, hq⟩; simp only []; have H2 := Lib.hid (H.out.of_quiet hq); clear H hq; have H := H2; clear H2)
            | (go_at_call 23; with_reducible refine (Left_is (top W) _ gs bs _ L2 _ H.out (by omega) HLN.out (by have := HL2.out; omega)).mono ?_; rintro e w6 ⟨rfl, hq⟩; simp only []; have H2 := Lib.hid (H.out.of_quiet hq); clear H hq; have H := H2; clear H2))
          go_ret
          exact ⟨rfl, H.out.below⟩
        · omega
        · omega

end Go.Proofs.Ythpkdephkhcgmaa
