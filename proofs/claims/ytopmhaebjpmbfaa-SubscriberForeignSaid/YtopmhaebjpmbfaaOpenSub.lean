/- Arguments opened: subscribers. -/
import Derived.Test.YtopmhaebjpmbfaaOpenVal
import Derived.Test.YtopmhaebjpmbfaaSubP
namespace Go.Proofs.Ytopmhaebjpmbfaa
open Go.RowKit Go.ChangeShapes Go.WideShapes

structure SubOk (z : SSt) : Prop where
  pub : I64 z.pub
  rev : I64 z.rev
  state : I64 z.state
  seq : I64 z.seq
  left : I64 z.left
  lost : I64 z.lost
  vals : ∀ x ∈ z.vals, VOk x
theorem cells_bool_sub : Try.prog.cellsOf 4 = 1 := by kernel_rfl
theorem cells_vals_sub : Try.prog.cellsOf 26 = 1 := by kernel_rfl
set_option maxRecDepth 100000 in
theorem sub_el {H : Type} {enc : TypeId × Value → H} {w : World} {base : Nat} {spare : Nat → Bool} {held : Bool} {fuel : Nat} {cs : List Value} {x : DataW H × List MemPlace}
    (h : DataW.trod enc Try.prog w base spare held fuel 50 cs = some x) : ∃ (z : SSt) (u : Value), cs = [.int .i64 z.pub, .int .i64 z.rev, .bool z.known, .int .i64 z.state, .int .i64 z.seq, .int .i64 z.left, .int .i64 z.lost, .bool z.test, u] ∧ RF Any 6 valE w u z.vals ∧ SubOk z := by
  obtain ⟨xs, m, hm, rfl, hcl, hxl, hf⟩ := DataW.trod_struct Try.underlying50 h
  rw [show Try.prog.cellsOf 50 = 9 by kernel_rfl] at hcl
  match cs, hcl with
  | [c0, c1, c2, c3, c4, c5, c6, c7, c8], _ =>
    match xs, hxl with
    | [y0, y1, y2, y3, y4, y5, y6, y7, y8], _ =>
      have f0 : DataW.trod enc Try.prog w base spare held m 3 [c0] = some y0 := by simpa [cells_int1, cells_stamp3, cells_bool_sub, cells_vals_sub] using hf 0 _ rfl
      have f1 : DataW.trod enc Try.prog w base spare held m 3 [c1] = some y1 := by simpa [cells_int1, cells_stamp3, cells_bool_sub, cells_vals_sub] using hf 1 _ rfl
      have f2 : DataW.trod enc Try.prog w base spare held m 4 [c2] = some y2 := by simpa [cells_int1, cells_stamp3, cells_bool_sub, cells_vals_sub] using hf 2 _ rfl
      have f3 : DataW.trod enc Try.prog w base spare held m 3 [c3] = some y3 := by simpa [cells_int1, cells_stamp3, cells_bool_sub, cells_vals_sub] using hf 3 _ rfl
      have f4 : DataW.trod enc Try.prog w base spare held m 3 [c4] = some y4 := by simpa [cells_int1, cells_stamp3, cells_bool_sub, cells_vals_sub] using hf 4 _ rfl
      have f5 : DataW.trod enc Try.prog w base spare held m 3 [c5] = some y5 := by simpa [cells_int1, cells_stamp3, cells_bool_sub, cells_vals_sub] using hf 5 _ rfl
      have f6 : DataW.trod enc Try.prog w base spare held m 3 [c6] = some y6 := by simpa [cells_int1, cells_stamp3, cells_bool_sub, cells_vals_sub] using hf 6 _ rfl
      have f7 : DataW.trod enc Try.prog w base spare held m 4 [c7] = some y7 := by simpa [cells_int1, cells_stamp3, cells_bool_sub, cells_vals_sub] using hf 7 _ rfl
      have f8 : DataW.trod enc Try.prog w base spare held m 26 [c8] = some y8 := by simpa [cells_int1, cells_stamp3, cells_bool_sub, cells_vals_sub] using hf 8 _ rfl
      obtain ⟨s0, h0, rfl, w0⟩ := DataW.trod_int Try.underlying3 f0
      obtain ⟨s1, h1, rfl, w1⟩ := DataW.trod_int Try.underlying3 f1
      obtain ⟨s2, h2, rfl⟩ := DataW.trod_bool Try.underlying4 f2
      obtain ⟨s3, h3, rfl, w3⟩ := DataW.trod_int Try.underlying3 f3
      obtain ⟨s4, h4, rfl, w4⟩ := DataW.trod_int Try.underlying3 f4
      obtain ⟨s5, h5, rfl, w5⟩ := DataW.trod_int Try.underlying3 f5
      obtain ⟨s6, h6, rfl, w6⟩ := DataW.trod_int Try.underlying3 f6
      obtain ⟨s7, h7, rfl⟩ := DataW.trod_bool Try.underlying4 f7
      obtain ⟨l, hl, _, hok⟩ := rf_of Try.underlying26 (show Try.prog.cellsOf 47 = 6 by kernel_rfl) (by omega) (fun _ _ _ hx => val_el hx) f8
      injection h0 with h0
      injection h1 with h1
      injection h2 with h2
      injection h3 with h3
      injection h4 with h4
      injection h5 with h5
      injection h6 with h6
      injection h7 with h7
      subst h0 h1 h2 h3 h4 h5 h6 h7
      exact ⟨⟨s0, s1, s2, s3, s4, s5, s6, s7, l⟩, c8, rfl, hl, ⟨wf_int w0, wf_int w1, wf_int w3, wf_int w4, wf_int w5, wf_int w6, hok⟩⟩
end Go.Proofs.Ytopmhaebjpmbfaa
