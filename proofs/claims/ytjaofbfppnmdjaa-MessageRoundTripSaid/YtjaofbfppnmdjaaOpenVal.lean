/- Arguments opened: lists of values. -/
import Derived.Test.YtjaofbfppnmdjaaOpenF
import Derived.Test.YtjaofbfppnmdjaaVal
import Derived.Test.YtjaofbfppnmdjaaChecked
namespace Go.Proofs.Ytjaofbfppnmdjaa
open Go.RowKit Go.ChangeShapes Go.WideShapes
theorem cells_int1 : Try.prog.cellsOf 3 = 1 := by kernel_rfl
theorem cells_str1 : Try.prog.cellsOf 9 = 1 := by kernel_rfl
theorem cells_stamp3 : Try.prog.cellsOf 41 = 3 := by kernel_rfl
theorem wf_int {n : Int} (h : (Lit.int .i64 n).wf = true) : -9223372036854775808 ≤ n ∧ n ≤ 9223372036854775807 := by
  unfold Lit.wf at h
  rw [Bool.and_eq_true, decide_eq_true_eq, decide_eq_true_eq] at h
  rw [show IntKind.i64.min = -9223372036854775808 by decide +kernel, show IntKind.i64.max = 9223372036854775807 by decide +kernel] at h
  exact h
/-- A number of 64 bits. -/
def I64 (n : Int) : Prop := -9223372036854775808 ≤ n ∧ n ≤ 9223372036854775807
/-- A value as it can be handed in. -/
structure VOk (z : Val) : Prop where
  kind : I64 z.kind
  n : I64 z.n
  s : z.s.size ≤ maxLen
  sec : I64 z.sec
  frac : I64 z.frac
  qual : I64 z.qual
set_option maxRecDepth 100000 in
theorem stamp_el {H : Type} {enc : TypeId × Value → H} {w : World} {base : Nat} {spare : Nat → Bool} {held : Bool} {fuel : Nat} {cs : List Value} {x : DataW H × List MemPlace}
    (h : DataW.trod enc Try.prog w base spare held fuel 41 cs = some x) : ∃ a b c : Int, cs = [.int .i64 a, .int .i64 b, .int .i64 c] ∧ I64 a ∧ I64 b ∧ I64 c := by
  obtain ⟨xs, m, hm, rfl, hcl, hxl, hf⟩ := DataW.trod_struct Try.underlying41 h
  rw [cells_stamp3] at hcl
  match cs, hcl with
  | [c0, c1, c2], _ =>
    match xs, hxl with
    | [y0, y1, y2], _ =>
      have f0 : DataW.trod enc Try.prog w base spare held m 3 [c0] = some y0 := by simpa [cells_int1] using hf 0 _ rfl
      have f1 : DataW.trod enc Try.prog w base spare held m 3 [c1] = some y1 := by simpa [cells_int1] using hf 1 _ rfl
      have f2 : DataW.trod enc Try.prog w base spare held m 3 [c2] = some y2 := by simpa [cells_int1] using hf 2 _ rfl
      obtain ⟨a, ha, rfl, wa⟩ := DataW.trod_int Try.underlying3 f0
      obtain ⟨b, hb, rfl, wb⟩ := DataW.trod_int Try.underlying3 f1
      obtain ⟨c, hc, rfl, wc⟩ := DataW.trod_int Try.underlying3 f2
      injection ha with ha
      injection hb with hb
      injection hc with hc
      subst ha hb hc
      exact ⟨a, b, c, rfl, wf_int wa, wf_int wb, wf_int wc⟩
set_option maxRecDepth 100000 in
theorem val_el {H : Type} {enc : TypeId × Value → H} {w : World} {base : Nat} {spare : Nat → Bool} {held : Bool} {fuel : Nat} {cs : List Value} {x : DataW H × List MemPlace}
    (h : DataW.trod enc Try.prog w base spare held fuel 43 cs = some x) : ∃ z : Val, cs = valE z ∧ (valE z).length = 6 ∧ VOk z := by
  obtain ⟨xs, m, hm, rfl, hcl, hxl, hf⟩ := DataW.trod_struct Try.underlying43 h
  rw [show Try.prog.cellsOf 43 = 6 by kernel_rfl] at hcl
  match cs, hcl with
  | [c0, c1, c2, c3, c4, c5], _ =>
    match xs, hxl with
    | [y0, y1, y2, y3], _ =>
      have f0 : DataW.trod enc Try.prog w base spare held m 3 [c0] = some y0 := by simpa [cells_int1] using hf 0 _ rfl
      have f1 : DataW.trod enc Try.prog w base spare held m 3 [c1] = some y1 := by simpa [cells_int1] using hf 1 _ rfl
      have f2 : DataW.trod enc Try.prog w base spare held m 9 [c2] = some y2 := by simpa [cells_int1, cells_str1] using hf 2 _ rfl
      have f3 : DataW.trod enc Try.prog w base spare held m 41 [c3, c4, c5] = some y3 := by simpa [cells_int1, cells_str1, cells_stamp3] using hf 3 _ rfl
      obtain ⟨k, hk, rfl, wk⟩ := DataW.trod_int Try.underlying3 f0
      obtain ⟨n, hn, rfl, wn⟩ := DataW.trod_int Try.underlying3 f1
      obtain ⟨s, hs, rfl, ws⟩ := DataW.trod_string Try.underlying9 f2
      obtain ⟨a, b, c, hst, wa, wb, wc⟩ := stamp_el f3
      injection hk with hk
      injection hn with hn
      injection hs with hs
      simp only [List.cons.injEq, and_true] at hst
      obtain ⟨h3, h4, h5⟩ := hst
      subst hk hn hs h3 h4 h5
      exact ⟨⟨k, n, s, a, b, c⟩, rfl, rfl, ⟨wf_int wk, wf_int wn, ws, wa, wb, wc⟩⟩
end Go.Proofs.Ytjaofbfppnmdjaa
