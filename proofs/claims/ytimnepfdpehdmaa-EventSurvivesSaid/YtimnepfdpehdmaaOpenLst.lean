/- Arguments opened: lists of integers. -/
import Derived.Test.YtimnepfdpehdmaaTR
import Derived.Test.YtimnepfdpehdmaaChecked
namespace Go.Proofs.Ytimnepfdpehdmaa
open Go.RowKit Go.ChangeShapes Go.WideShapes
def intE (z : Int) : List Value := [.int .i64 z]
theorem int_el {H : Type} {enc : TypeId × Value → H} {w : World} {base : Nat} {spare : Nat → Bool} {held : Bool} {fuel : Nat} {cs : List Value} {x : DataW H × List MemPlace}
    (h : DataW.trod enc Try.prog w base spare held fuel 3 cs = some x) : ∃ z : Int, cs = intE z ∧ (intE z).length = 1 ∧ True := by
  obtain ⟨z, rfl, _⟩ := DataW.trod_int Try.underlying3 h
  exact ⟨z, rfl, rfl, trivial⟩
end Go.Proofs.Ytimnepfdpehdmaa
