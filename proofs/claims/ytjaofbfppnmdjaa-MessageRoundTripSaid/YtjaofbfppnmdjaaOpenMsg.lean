/- Arguments opened: messages. -/
import Derived.Test.YtjaofbfppnmdjaaOpenVal
import Derived.Test.YtjaofbfppnmdjaaPubP
namespace Go.Proofs.Ytjaofbfppnmdjaa
open Go.RowKit Go.ChangeShapes Go.WideShapes

structure MsgOk (z : Msg) : Prop where
  pub : I64 z.pub
  ttl : I64 z.ttl
  sec : I64 z.sec
  frac : I64 z.frac
  qual : I64 z.qual
  state : I64 z.state
  seq : I64 z.seq
  rev : I64 z.rev
  vals : ∀ x ∈ z.vals, VOk x
theorem cells_bool_msg : Try.prog.cellsOf 4 = 1 := by kernel_rfl
theorem cells_vals_msg : Try.prog.cellsOf 22 = 1 := by kernel_rfl
set_option maxRecDepth 100000 in
theorem msg_el {H : Type} {enc : TypeId × Value → H} {w : World} {base : Nat} {spare : Nat → Bool} {held : Bool} {fuel : Nat} {cs : List Value} {x : DataW H × List MemPlace}
    (h : DataW.trod enc Try.prog w base spare held fuel 71 cs = some x) : ∃ (z : Msg) (u : Value), cs = [.int .i64 z.pub, .int .i64 z.ttl, .int .i64 z.sec, .int .i64 z.frac, .int .i64 z.qual, .int .i64 z.state, .int .i64 z.seq, .bool z.test, .int .i64 z.rev, u] ∧ RF Any 6 valE w u z.vals ∧ MsgOk z := by
  obtain ⟨xs, m, hm, rfl, hcl, hxl, hf⟩ := DataW.trod_struct Try.underlying71 h
  rw [show Try.prog.cellsOf 71 = 10 by kernel_rfl] at hcl
  match cs, hcl with
  | [c0, c1, c2, c3, c4, c5, c6, c7, c8, c9], _ =>
    match xs, hxl with
    | [y0, y1, y2, y3, y4, y5, y6, y7], _ =>
      have f0 : DataW.trod enc Try.prog w base spare held m 3 [c0] = some y0 := by simpa [cells_int1, cells_stamp3, cells_bool_msg, cells_vals_msg] using hf 0 _ rfl
      have f1 : DataW.trod enc Try.prog w base spare held m 3 [c1] = some y1 := by simpa [cells_int1, cells_stamp3, cells_bool_msg, cells_vals_msg] using hf 1 _ rfl
      have f2 : DataW.trod enc Try.prog w base spare held m 41 [c2, c3, c4] = some y2 := by simpa [cells_int1, cells_stamp3, cells_bool_msg, cells_vals_msg] using hf 2 _ rfl
      have f3 : DataW.trod enc Try.prog w base spare held m 3 [c5] = some y3 := by simpa [cells_int1, cells_stamp3, cells_bool_msg, cells_vals_msg] using hf 3 _ rfl
      have f4 : DataW.trod enc Try.prog w base spare held m 3 [c6] = some y4 := by simpa [cells_int1, cells_stamp3, cells_bool_msg, cells_vals_msg] using hf 4 _ rfl
      have f5 : DataW.trod enc Try.prog w base spare held m 4 [c7] = some y5 := by simpa [cells_int1, cells_stamp3, cells_bool_msg, cells_vals_msg] using hf 5 _ rfl
      have f6 : DataW.trod enc Try.prog w base spare held m 3 [c8] = some y6 := by simpa [cells_int1, cells_stamp3, cells_bool_msg, cells_vals_msg] using hf 6 _ rfl
      have f7 : DataW.trod enc Try.prog w base spare held m 22 [c9] = some y7 := by simpa [cells_int1, cells_stamp3, cells_bool_msg, cells_vals_msg] using hf 7 _ rfl
      obtain ⟨s0, h0, rfl, w0⟩ := DataW.trod_int Try.underlying3 f0
      obtain ⟨s1, h1, rfl, w1⟩ := DataW.trod_int Try.underlying3 f1
      obtain ⟨s2, s3, s4, hst, w2, w3, w4⟩ := stamp_el f2
      simp only [List.cons.injEq, and_true] at hst
      obtain ⟨h2, h3, h4⟩ := hst
      obtain ⟨s5, h5, rfl, w5⟩ := DataW.trod_int Try.underlying3 f3
      obtain ⟨s6, h6, rfl, w6⟩ := DataW.trod_int Try.underlying3 f4
      obtain ⟨s7, h7, rfl⟩ := DataW.trod_bool Try.underlying4 f5
      obtain ⟨s8, h8, rfl, w8⟩ := DataW.trod_int Try.underlying3 f6
      obtain ⟨l, hl, _, hok⟩ := rf_of Try.underlying22 (show Try.prog.cellsOf 43 = 6 by kernel_rfl) (by omega) (fun _ _ _ hx => val_el hx) f7
      injection h0 with h0
      injection h1 with h1
      injection h5 with h5
      injection h6 with h6
      injection h7 with h7
      injection h8 with h8
      subst h0 h1 h2 h3 h4 h5 h6 h7 h8
      exact ⟨⟨s0, s1, s2, s3, s4, s5, s6, s7, s8, l⟩, c9, rfl, hl, ⟨wf_int w0, wf_int w1, w2, w3, w4, wf_int w5, wf_int w6, wf_int w8, hok⟩⟩
end Go.Proofs.Ytjaofbfppnmdjaa
