/- Arguments opened: lists of truth values. -/
import Derived.Test.YtjaofbfppnmdjaaOpenF
import Derived.Test.YtjaofbfppnmdjaaChecked
namespace Go.Proofs.Ytjaofbfppnmdjaa
open Go.RowKit Go.ChangeShapes Go.WideShapes
def boolE (b : Bool) : List Value := [.bool b]
theorem bool_el {H : Type} {enc : TypeId × Value → H} {w : World} {base : Nat} {spare : Nat → Bool} {held : Bool} {fuel : Nat} {cs : List Value} {x : DataW H × List MemPlace}
    (h : DataW.trod enc Try.prog w base spare held fuel 4 cs = some x) : ∃ z : Bool, cs = boolE z ∧ (boolE z).length = 1 ∧ True := by
  obtain ⟨b, rfl, _⟩ := DataW.trod_bool Try.underlying4 h
  exact ⟨b, rfl, rfl, trivial⟩
end Go.Proofs.Ytjaofbfppnmdjaa
