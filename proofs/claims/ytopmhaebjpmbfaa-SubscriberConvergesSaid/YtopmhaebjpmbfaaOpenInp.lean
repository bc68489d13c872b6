/- Arguments opened: the inputs of layer 13. -/
import Derived.Test.YtopmhaebjpmbfaaOpenF
import Derived.Test.YtopmhaebjpmbfaaInp
namespace Go.Proofs.Ytopmhaebjpmbfaa
open Go.RowKit Go.ChangeShapes Go.WideShapes
theorem cells_int3 : Try.prog.cellsOf 3 = 1 := by kernel_rfl
set_option maxRecDepth 100000 in
theorem inp_el {H : Type} {enc : TypeId × Value → H} {w : World} {base : Nat} {spare : Nat → Bool} {held : Bool} {fuel : Nat} {cs : List Value} {x : DataW H × List MemPlace}
    (h : DataW.trod enc Try.prog w base spare held fuel 32 cs = some x) : ∃ z : Int × Int, cs = inpE z ∧ (inpE z).length = 2 ∧ True := by
  obtain ⟨xs, m, hm, rfl, hcl, hxl, hf⟩ := DataW.trod_struct Try.underlying32 h
  rw [show Try.prog.cellsOf 32 = 2 by kernel_rfl] at hcl
  match cs, hcl with
  | [c0, c1], _ =>
    match xs, hxl with
    | [y0, y1], _ =>
      have f0 : DataW.trod enc Try.prog w base spare held m 3 [c0] = some y0 := by simpa [cells_int3] using hf 0 _ rfl
      have f1 : DataW.trod enc Try.prog w base spare held m 3 [c1] = some y1 := by simpa [cells_int3] using hf 1 _ rfl
      obtain ⟨s, hs, rfl, _⟩ := DataW.trod_int Try.underlying3 f0
      obtain ⟨q, hq, rfl, _⟩ := DataW.trod_int Try.underlying3 f1
      injection hs with hs
      injection hq with hq
      subst hs hq
      exact ⟨(s, q), rfl, rfl, trivial⟩
end Go.Proofs.Ytopmhaebjpmbfaa
