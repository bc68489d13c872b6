/- The walk of the statement TwinSends. -/
import Derived.Test.YtdnoejdhphpieaaTwJ
import Derived.Test.YtdnoejdhphpieaaTwD
namespace Go.Proofs.Ytdnoejdhphpieaa
open Go.RowKit
attribute [local go_sem ↓] Go.wp_at_zero Go.wp_at_succ

set_option maxRecDepth 100000 in
set_option maxHeartbeats 4000000 in
theorem sends_walk (p : List Int) (v : Value) (src seq : Int) (w : World) (h : RB Any w v p) : Calls Try.prog 7 #[v, .int .i64 src, .int .i64 seq] w fun e w' => e = .returned (.bool true) ∧ Ext w w' := by
  have hk := Lib.hid (known16_any w)
  have SP := Lib.hid (fun w1 (he : Ext w w1) => sendP_any p v src seq w1 (h.ext he))
  have SR := Lib.hid (fun w1 (he : Ext w w1) => sendR_any p v src seq w1 (h.ext he))
  obtain ⟨⟨⟨f0, f1⟩, nx, er⟩, hz⟩ : ∃ z, sendS p src seq = z := ⟨_, rfl⟩
  rw [hz] at SP SR
  clear hz h
  go_enter Try.func7, Try.ntmps7
  go_wp2_with fail
  refine hk.out.mono ?_
  rintro e w1 ⟨rfl, x1⟩
  go_wp2_with fail
  refine (SP.out _ x1).mono ?_
  rintro e w2 ⟨a0, c0, a1, c1, rfl, x2, r0, r1⟩
  simp only at r0 r1
  have X2 := x1.trans x2
  have HR0 := Lib.hid r0
  have HR1 := Lib.hid r1
  clear r0 r1
  generalize hn0 : f0.length = n0 at *
  generalize hn1 : f1.length = n1 at *
  go_wp2_with fail
  refine (SR.out _ (X2.alloc _)).mono ?_
  rintro e w3 ⟨a2, c2, a3, c3, rfl, x3, r2, r3⟩
  simp only at r2 r3
  rw [hn0] at r2
  rw [hn1] at r3
  have d0 := x3.cell (cell_at w2 #[.slice a0 n0 c0, .slice a1 n1 c1] 52 _ 0 _ rfl rfl)
  have d1 := x3.cell (cell_at w2 #[.slice a0 n0 c0, .slice a1 n1 c1] 52 _ 1 _ rfl rfl)
  have X3 := (X2.alloc _).trans x3
  simp only [hn0, hn1]
  have v0 := (((HR0.out.ext ((Ext.refl _).alloc _)).ext x3).ext ((Ext.refl _).alloc (.cells #[.slice a2 n0 c2, .slice a3 n1 c3] 52))).conv (P := Try.prog) 51 9 5 Try.underlying51 Try.underlying5 (by kernel_rfl)
  have v1 := (((HR1.out.ext ((Ext.refl _).alloc _)).ext x3).ext ((Ext.refl _).alloc (.cells #[.slice a2 n0 c2, .slice a3 n1 c3] 52))).conv (P := Try.prog) 51 9 5 Try.underlying51 Try.underlying5 (by kernel_rfl)
  have v2 := (r2.ext ((Ext.refl _).alloc (.cells #[.slice a2 n0 c2, .slice a3 n1 c3] 52))).conv (P := Try.prog) 51 9 5 Try.underlying51 Try.underlying5 (by kernel_rfl)
  have v3 := (r3.ext ((Ext.refl _).alloc (.cells #[.slice a2 n0 c2, .slice a3 n1 c3] 52))).conv (P := Try.prog) 51 9 5 Try.underlying51 Try.underlying5 (by kernel_rfl)
  generalize strOfNums f0 = s0 at *
  generalize strOfNums f1 = s1 at *
  clear HR0 HR1 r2 r3 SP SR hn0 hn1
  have hz : w2.heap.size < w3.heap.size := by have := x3.size; simp at this; omega
  go_wp2_with fail
  go_ret
  exact ⟨rfl, X3.alloc _⟩
end Go.Proofs.Ytdnoejdhphpieaa
