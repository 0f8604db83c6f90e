import Derived.Test.YthpkdephkhcgmaaWWords
/-! The few of the print's further words that the printed texts use, by this session's own hand: gates that look at an operation, and Go's shifts. (Beside this text no claim bears the print's own 'More'.) -/
namespace Go.Proofs.YthpkdephkhcgmaaW.PrintWords
open Go Go.RowKit
section
variable {P : Program} {ops : Array Oper} {rest : List Oper} {o : Oper} {a : Act} {Q : Exit → Act → World → Prop} {W : World}
theorem gate_callee {f : FuncId} {as : Array Operand} {ts : Array TypeId} (_ : o.op = .call { callee := .value (.func f), args := as, argTypes := ts }) : wpList P ops Q (o :: rest) a W → wpList P ops Q (o :: rest) a W := id
theorem gate_builtin {b : Builtin} {xs : Array Operand} {ts : Array TypeId} (_ : o.op = .call { callee := .builtin b, args := xs, argTypes := ts }) : wpList P ops Q (o :: rest) a W → wpList P ops Q (o :: rest) a W := id
end
def shl (k : IntKind) (x y : Int) : Int := k.wrap (x * 2 ^ min y.toNat k.bits)
theorem shl_small {k : IntKind} {x y j : Int} (h : shl k x y = j) (hy : y ≤ k.bits) : k.wrap (x * 2 ^ y.toNat) = j := by
  subst h
  show _ = k.wrap _
  rw [Nat.min_eq_left (by omega)]
end Go.Proofs.YthpkdephkhcgmaaW.PrintWords
namespace Go.Proofs.YthpkdephkhcgmaaW.PrintMore
end Go.Proofs.YthpkdephkhcgmaaW.PrintMore
