import Derived.Test.YtiglncmkinojjaaDoorRows
import Derived.Test.YtiglncmkinojjaaDoorModelD
import Derived.LaidMore
import Derived.OpenShut
import Derived.Stop.Joined
import Derived.ProofKit
namespace Go.Proofs.YtiglncmkinojjaaDoor
set_option linter.unusedVariables false
open Go Go.ChangeShapes Go.WideShapes Go.ChangeAt Go.WideMaps Go.WideElems Go.RowKit

theorem ints_of {H : Type} {enc : TypeId × Value → H} {P : Program} {W : World} {b : Nat} {sp : Nat → Bool} {held : Bool} {fuel : Nat} {t e : TypeId} {k : IntKind} {n : Nat} {cs : List Value} {l : List Int} {q : List MemPlace}
    (ht : P.underlying t = some (.array n e)) (he : P.underlying e = some (.int k)) (hc : P.cellsOf e = 1) (hct : P.cellsOf t = n) (hl : l.length = n)
    (h : DataW.trod enc P W b sp held fuel t cs = some (.agg (l.map fun x => .lit (.int k x)), q)) : cs = l.map fun x => .int k x := by
  obtain ⟨xs, m1, rfl, hx1, hlen, hn3, hel⟩ := DataW.trod_array ht h
  simp only [Prod.mk.injEq, DataW.agg.injEq] at hx1
  apply List.ext_getElem?
  intro i
  by_cases hi : i < n
  · have h0 := hel i hi
    rw [List.getElem?_eq_getElem (by omega)] at h0
    rw [hc, Nat.mul_one] at h0
    obtain ⟨r, e1, e2, _⟩ := DataW.trod_int he h0
    have hi2 : i < cs.length := by omega
    have e3 : cs[i]? = some (.int k r) := by
      have := congrArg (fun l : List Value => l[0]?) e1
      simpa using this
    have e4 : (xs.map (·.1))[i]? = (l.map fun x => DataW.lit (.int k x))[i]? := by rw [← hx1.1]
    rw [List.getElem?_map, List.getElem?_map, List.getElem?_eq_getElem (show i < xs.length by omega), List.getElem?_eq_getElem (show i < l.length by omega)] at e4
    simp only [Option.map_some, Option.some.injEq] at e4
    rw [e2] at e4
    simp at e4
    rw [e3, List.getElem?_map, List.getElem?_eq_getElem (show i < l.length by omega), Option.map_some, e4]
  · rw [List.getElem?_eq_none (by omega), List.getElem?_eq_none (by simp; omega)]

theorem tab_of {W : World} (h : laidMetH Tryd.prog [("dailies/model.starts", Rows.laid_dailies_model_starts), ("dailies/model.rises", Rows.laid_dailies_model_rises)] W) : Tab W := by
  rw [MakeChecks.laidMetH_plain _ _ _ (by kernel_rfl)] at h
  obtain ⟨ps, ⟨g0, t0, cs0, n0, p0, q0, hg0, ht0, hv0, hd0, ⟨g1, t1, cs1, n1, p1, q1, hg1, ht1, hv1, hd1, _, _⟩, _⟩, _, _⟩ := h
  obtain rfl := Option.some.inj ((show Tryd.prog.globalNamed "dailies/model.starts" = some 0 by kernel_rfl).symm.trans hg0)
  obtain rfl := Option.some.inj ((show Tryd.prog.globalNamed "dailies/model.rises" = some 1 by kernel_rfl).symm.trans hg1)
  obtain rfl := Option.some.inj ((show (Tryd.prog.globals[0]?).map (·.type) = some 69 by kernel_rfl).symm.trans ht0)
  obtain rfl := Option.some.inj ((show (Tryd.prog.globals[1]?).map (·.type) = some 58 by kernel_rfl).symm.trans ht1)
  have c1 : Tryd.prog.cellsOf 3 = 1 := by kernel_rfl
  have c3 : Tryd.prog.cellsOf 58 = 3 := by kernel_rfl
  have c6 : Tryd.prog.cellsOf 69 = 6 := by kernel_rfl
  have e1 := ints_of (l := [3, 5, 7]) Tryd.underlying58 Tryd.underlying3 c1 c3 rfl hd1
  obtain ⟨xs, m1, rfl, hx1, hlen, hn3, hel⟩ := DataW.trod_array Tryd.underlying69 hd0
  match xs, hn3, hx1, hel with
  | [x0, x1], _, hx1, hel =>
    simp only [Rows.laid_dailies_model_starts, Prod.mk.injEq, DataW.agg.injEq, List.map_cons, List.map_nil, List.cons.injEq, and_true] at hx1
    have h0 := hel 0 (by decide)
    have h1 := hel 1 (by decide)
    obtain ⟨y0, z0⟩ := x0
    obtain ⟨y1, z1⟩ := x1
    simp only at hx1
    obtain ⟨⟨rfl, rfl⟩, _⟩ := hx1
    have a0 := ints_of (l := [6, 19, 72]) Tryd.underlying58 Tryd.underlying3 c1 c3 rfl h0
    have a1 := ints_of (l := [18, 67, 276]) Tryd.underlying58 Tryd.underlying3 c1 c3 rfl h1
    rw [c3] at a0 a1
    have ec : cs0.toList = [Value.int .i64 6, .int .i64 19, .int .i64 72, .int .i64 18, .int .i64 67, .int .i64 276] := by
      have hl6 : cs0.toList.length = 6 := hlen.trans c6
      have := List.take_append_drop 3 cs0.toList
      rw [← this]
      have t0 : cs0.toList.take 3 = [Value.int .i64 6, .int .i64 19, .int .i64 72] := by simpa using a0
      have t1 : cs0.toList.drop 3 = [Value.int .i64 18, .int .i64 67, .int .i64 276] := by
        have h3 : (cs0.toList.drop 3).length = 3 := by rw [List.length_drop]; omega
        have : (cs0.toList.drop (1 * 3)).take 3 = cs0.toList.drop 3 := by rw [Nat.one_mul]; exact List.take_of_length_le (by omega)
        rw [this] at a1
        simpa using a1
      rw [t0, t1]
      rfl
    have s (i : Nat) := (World.var?_cell hg0 hv0 i).trans (by rw [← Array.getElem?_toList, ec])
    have r (i : Nat) := (World.var?_cell hg1 hv1 i).trans (by rw [← Array.getElem?_toList, e1])
    exact ⟨s 0, s 1, s 2, s 3, s 4, s 5, r 0, r 1, r 2⟩

end Go.Proofs.YtiglncmkinojjaaDoor
