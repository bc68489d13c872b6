/- Arguments opened: the events of layer 14. -/
import Derived.Test.YtopmhaebjpmbfaaOpenF
import Derived.Test.YtopmhaebjpmbfaaSubN
namespace Go.Proofs.Ytopmhaebjpmbfaa
open Go.RowKit Go.ChangeShapes Go.WideShapes
theorem cells_i3 : Try.prog.cellsOf 3 = 1 := by kernel_rfl
theorem cells_b4 : Try.prog.cellsOf 4 = 1 := by kernel_rfl
set_option maxRecDepth 100000 in
theorem evt_el {H : Type} {enc : TypeId × Value → H} {w : World} {base : Nat} {spare : Nat → Bool} {held : Bool} {fuel : Nat} {cs : List Value} {x : DataW H × List MemPlace}
    (h : DataW.trod enc Try.prog w base spare held fuel 70 cs = some x) : ∃ z : Evt, cs = evtE z ∧ (evtE z).length = 6 ∧ True := by
  obtain ⟨xs, m, hm, rfl, hcl, hxl, hf⟩ := DataW.trod_struct Try.underlying70 h
  rw [show Try.prog.cellsOf 70 = 6 by kernel_rfl] at hcl
  match cs, hcl with
  | [c0, c1, c2, c3, c4, c5], _ =>
    match xs, hxl with
    | [y0, y1, y2, y3, y4, y5], _ =>
      have f0 : DataW.trod enc Try.prog w base spare held m 3 [c0] = some y0 := by simpa [cells_i3] using hf 0 _ rfl
      have f1 : DataW.trod enc Try.prog w base spare held m 3 [c1] = some y1 := by simpa [cells_i3] using hf 1 _ rfl
      have f2 : DataW.trod enc Try.prog w base spare held m 3 [c2] = some y2 := by simpa [cells_i3] using hf 2 _ rfl
      have f3 : DataW.trod enc Try.prog w base spare held m 4 [c3] = some y3 := by simpa [cells_i3, cells_b4] using hf 3 _ rfl
      have f4 : DataW.trod enc Try.prog w base spare held m 4 [c4] = some y4 := by simpa [cells_i3, cells_b4] using hf 4 _ rfl
      have f5 : DataW.trod enc Try.prog w base spare held m 4 [c5] = some y5 := by simpa [cells_i3, cells_b4] using hf 5 _ rfl
      obtain ⟨s0, h0, rfl, _⟩ := DataW.trod_int Try.underlying3 f0
      obtain ⟨s1, h1, rfl, _⟩ := DataW.trod_int Try.underlying3 f1
      obtain ⟨s2, h2, rfl, _⟩ := DataW.trod_int Try.underlying3 f2
      obtain ⟨s3, h3, rfl⟩ := DataW.trod_bool Try.underlying4 f3
      obtain ⟨s4, h4, rfl⟩ := DataW.trod_bool Try.underlying4 f4
      obtain ⟨s5, h5, rfl⟩ := DataW.trod_bool Try.underlying4 f5
      injection h0 with h0
      injection h1 with h1
      injection h2 with h2
      injection h3 with h3
      injection h4 with h4
      injection h5 with h5
      subst h0 h1 h2 h3 h4 h5
      exact ⟨⟨s0, s1, s2, s3, s4, s5⟩, rfl, rfl, trivial⟩
end Go.Proofs.Ytopmhaebjpmbfaa
