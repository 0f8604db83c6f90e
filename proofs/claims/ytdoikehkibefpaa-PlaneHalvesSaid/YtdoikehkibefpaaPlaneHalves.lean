import Derived.Test.YtdoikehkibefpaaPlaneQ
import Derived.Test.YtdoikehkibefpaaPlaneR
namespace Go.Proofs.Ytdoikehkibefpaa
open Go Go.RowKit Go.Proofs.Ytdoikehkibefpaa.PPa Go.Proofs.YtdoikehkibefpaaW.PrintWords
theorem planeHalves_walk {H : Type} {enc : TypeId × Value → H} (W : World) (base : Nat) (v0 v1 v2 : Value) (a0 : Arg enc Try.prog W base 26 v0) (a1 : Arg enc Try.prog W base 3 v1) (a2 : Arg enc Try.prog W base 52 v2) :
    Calls Try.prog 7 #[v0, v1, v2] W fun e W' => e = .returned (.bool true) ∧ Below W.heap.size W W' := by
  obtain ⟨a, b, c, d, rfl, _⟩ := arg_shape a0
  obtain ⟨n, rfl, _⟩ := arg_int (k := .i64) Try.underlying3 a1
  obtain ⟨x, y, w, h, rfl, _⟩ := arg_rect a2
  exact dailieslaw06_PlaneHalves.calls 40 a b c d n x y w h true W (halves_f a b c d n x y w h)
end Go.Proofs.Ytdoikehkibefpaa
