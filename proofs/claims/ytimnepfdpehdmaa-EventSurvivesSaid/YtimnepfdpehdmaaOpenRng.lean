/- Arguments opened: the rings of the top. -/
import Derived.Test.YtimnepfdpehdmaaTR
import Derived.Test.YtimnepfdpehdmaaChecked
namespace Go.Proofs.Ytimnepfdpehdmaa
open Go.RowKit Go.ChangeShapes Go.WideShapes
theorem cells_intR : Try.prog.cellsOf 3 = 1 := by kernel_rfl
def rngE (z : Int × Int × Int × Int) : List Value := [.int .i64 z.1, .int .i64 z.2.1, .int .i64 z.2.2.1, .int .i64 z.2.2.2]
set_option maxRecDepth 100000 in
theorem rng_el {H : Type} {enc : TypeId × Value → H} {w : World} {base : Nat} {spare : Nat → Bool} {held : Bool} {fuel : Nat} {cs : List Value} {x : DataW H × List MemPlace}
    (h : DataW.trod enc Try.prog w base spare held fuel 63 cs = some x) : ∃ z : Int × Int × Int × Int, cs = rngE z ∧ (rngE z).length = 4 ∧ True := by
  obtain ⟨xs, m, hm, rfl, hcl, hxl, hf⟩ := DataW.trod_struct Try.underlying63 h
  rw [show Try.prog.cellsOf 63 = 4 by kernel_rfl] at hcl
  match cs, hcl with
  | [c0, c1, c2, c3], _ =>
    match xs, hxl with
    | [y0, y1, y2, y3], _ =>
      have f0 : DataW.trod enc Try.prog w base spare held m 3 [c0] = some y0 := by simpa [cells_intR] using hf 0 _ rfl
      have f1 : DataW.trod enc Try.prog w base spare held m 3 [c1] = some y1 := by simpa [cells_intR] using hf 1 _ rfl
      have f2 : DataW.trod enc Try.prog w base spare held m 3 [c2] = some y2 := by simpa [cells_intR] using hf 2 _ rfl
      have f3 : DataW.trod enc Try.prog w base spare held m 3 [c3] = some y3 := by simpa [cells_intR] using hf 3 _ rfl
      obtain ⟨z0, h0, rfl, _⟩ := DataW.trod_int Try.underlying3 f0
      obtain ⟨z1, h1, rfl, _⟩ := DataW.trod_int Try.underlying3 f1
      obtain ⟨z2, h2, rfl, _⟩ := DataW.trod_int Try.underlying3 f2
      obtain ⟨z3, h3, rfl, _⟩ := DataW.trod_int Try.underlying3 f3
      injection h0 with h0
      injection h1 with h1
      injection h2 with h2
      injection h3 with h3
      subst h0 h1 h2 h3
      exact ⟨(z0, z1, z2, z3), rfl, rfl, trivial⟩
end Go.Proofs.Ytimnepfdpehdmaa
