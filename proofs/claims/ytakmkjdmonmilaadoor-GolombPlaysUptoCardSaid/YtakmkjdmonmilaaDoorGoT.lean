import Derived.Test.YtakmkjdmonmilaaDoorRows
import Derived.Test.YtakmkjdmonmilaaDoorGoB
import Derived.LaidMore
import Derived.OpenShut
import Derived.Stop.Joined
import Derived.ProofKit
namespace Go.Proofs.YtakmkjdmonmilaaDoor
set_option linter.unusedVariables false
open Go Go.ChangeShapes Go.WideShapes Go.ChangeAt Go.WideMaps Go.WideElems Go.RowKit

theorem ints_of {H : Type} {enc : TypeId × Value → H} {P : Program} {W : World} {b : Nat} {sp : Nat → Bool} {held : Bool} {fuel : Nat} {t e : TypeId} {k : IntKind} {n : Nat} {cs : List Value} {l : List Int} {q : List MemPlace}
    (ht : P.underlying t = some (.array n e)) (he : P.underlying e = some (.int k)) (hc : P.cellsOf e = 1) (hct : P.cellsOf t = n) (hl : l.length = n)
    (h : DataW.trod enc P W b sp held fuel t cs = some (.agg (l.map fun x => .lit (.int k x)), q)) : cs = l.map fun x => .int k x := by
  obtain ⟨xs, m1, rfl, hx1, hlen, hn3, hel⟩ := DataW.trod_array ht h
  simp only [Prod.mk.injEq, DataW.agg.injEq] at hx1
  apply List.ext_getElem?
  intro i
  by_cases hi : i < n
  · have h0 := hel i hi
    rw [List.getElem?_eq_getElem (by omega)] at h0
    rw [hc, Nat.mul_one] at h0
    obtain ⟨r, e1, e2, _⟩ := DataW.trod_int he h0
    have hi2 : i < cs.length := by omega
    have e3 : cs[i]? = some (.int k r) := by
      have := congrArg (fun l : List Value => l[0]?) e1
      simpa using this
    have e4 : (xs.map (·.1))[i]? = (l.map fun x => DataW.lit (.int k x))[i]? := by rw [← hx1.1]
    rw [List.getElem?_map, List.getElem?_map, List.getElem?_eq_getElem (show i < xs.length by omega), List.getElem?_eq_getElem (show i < l.length by omega)] at e4
    simp only [Option.map_some, Option.some.injEq] at e4
    rw [e2] at e4
    simp at e4
    rw [e3, List.getElem?_map, List.getElem?_eq_getElem (show i < l.length by omega), Option.map_some, e4]
  · rw [List.getElem?_eq_none (by omega), List.getElem?_eq_none (by simp; omega)]

def rateL : List Int := [0, 0, 0, 0, 1, 1, 1, 1, 2, 2, 2, 3, 3, 4, 4, 5, 6, 7, 8, 9, 10, 11, 12]
theorem rateL_at (i : Nat) (h : i < 23) : (rateL.map fun x => Value.int .i64 x)[i]? = some (.int .i64 (J i : Nat)) := by
  have : ∀ k, k < 23 → rateL[k]? = some ((J k : Nat) : Int) := by decide +kernel
  rw [List.getElem?_map, this i h]; rfl

theorem tab_of {W : World} (h : laidMetH Tryd.prog [("dailies/golomb.rates", Rows.laid_dailies_golomb_rates)] W) : Tab W := by
  rw [MakeChecks.laidMetH_plain _ _ _ (by kernel_rfl)] at h
  obtain ⟨ps, ⟨g0, t0, cs0, n0, p0, q0, hg0, ht0, hv0, hd0, _, _⟩, _, _⟩ := h
  obtain rfl := Option.some.inj ((show Tryd.prog.globalNamed "dailies/golomb.rates" = some 0 by kernel_rfl).symm.trans hg0)
  obtain rfl := Option.some.inj ((show (Tryd.prog.globals[0]?).map (·.type) = some 85 by kernel_rfl).symm.trans ht0)
  have c1 : Tryd.prog.cellsOf 3 = 1 := by kernel_rfl
  have c23 : Tryd.prog.cellsOf 85 = 23 := by kernel_rfl
  have e1 := ints_of (l := rateL) Tryd.underlying85 Tryd.underlying3 c1 c23 rfl hd0
  intro i hi
  exact (World.var?_cell hg0 hv0 i).trans (by rw [← Array.getElem?_toList, e1, rateL_at i hi])

end Go.Proofs.YtakmkjdmonmilaaDoor
