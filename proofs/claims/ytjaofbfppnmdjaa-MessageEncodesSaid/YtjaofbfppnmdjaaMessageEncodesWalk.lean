/- The walk of the statement MessageEncodes. -/
import Derived.Test.YtjaofbfppnmdjaaMsgG
import Derived.Test.YtjaofbfppnmdjaaMsgK
namespace Go.Proofs.Ytjaofbfppnmdjaa
open Go.RowKit
attribute [local go_sem ↓] Go.wp_at_zero Go.wp_at_succ

theorem large_no {l : List Val} (h : largeB l = false) : l.length ≤ 60 := by
  unfold largeB at h
  simp only [Bool.or_eq_false_iff, decide_eq_false_iff_not] at h
  omega
set_option maxRecDepth 100000 in
set_option maxHeartbeats 8000000 in
theorem mencodes_walk (m : Msg) (v : Value) (w : World) (hv : RF Any 6 valE w v m.vals) : Calls Try.prog 10 #[msgA m v] w fun e w' => e = .returned (.bool true) ∧ Ext w w' := by
  have HK := Lib.hid (fun w1 => known12_any w1)
  have HLG := Lib.hid (fun w1 (he : Ext w w1) => large11_any m.vals v w1 (hv.ext he))
  have HE := Lib.hid (fun w1 (he : Ext w w1) => encMP_any m v w1 (hv.ext he))
  have HR := Lib.hid (fun w1 u (h : RF Any 6 valE w1 u m.vals) => encMR_any m u w1 h)
  cases hlg : largeB m.vals
  · have hle := large_no hlg
    have HT := Lib.hid (fun w1 (he : Ext w w1) => to12_any m v w1 (hv.ext he) (by omega))
    obtain ⟨a, c, rfl, hc1, hc2⟩ := hv.form
    rw [hlg] at HLG
    generalize encMB m = D at *
    generalize encME m = E at *
    obtain ⟨m1, m2, m3, m4, m5, m6, m7, m8, m9, vs⟩ := m
    simp only at *
    generalize hn : vs.length = n at *
    have HNN := Lib.hid hn
    clear hn hv hlg hle
    go_enter Try.func10, Try.ntmps10
    go_upto_region 1 with fail
    have BV := Bk.new w #[.int .i64 m1, .int .i64 m2, .int .i64 m3, .int .i64 m4, .int .i64 m5, .int .i64 m6, .int .i64 m7, .bool m8, .int .i64 m9, .slice a n c] 71 w.heap.size rfl
    have X0 : Ext w (w.alloc (.cells #[.int .i64 m1, .int .i64 m2, .int .i64 m3, .int .i64 m4, .int .i64 m5, .int .i64 m6, .int .i64 m7, .bool m8, .int .i64 m9, .slice a n c] 71)) := (Ext.refl w).alloc _
    generalize w.alloc (.cells #[.int .i64 m1, .int .i64 m2, .int .i64 m3, .int .i64 m4, .int .i64 m5, .int .i64 m6, .int .i64 m7, .bool m8, .int .i64 m9, .slice a n c] 71) = W at *
    go_wp2_with fail
    refine (HK.out _).mono ?_
    rintro e w1 ⟨rfl, x1⟩
    have X1 := X0.trans x1
    have q1 : ∀ j, w1.cell? ⟨w.heap.size, j, none⟩ = (#[.int .i64 m1, .int .i64 m2, .int .i64 m3, .int .i64 m4, .int .i64 m5, .int .i64 m6, .int .i64 m7, .bool m8, .int .i64 m9, .slice a n c] : Array Value)[j]? := (BV.ext x1).cell
    go_wp2_with fail
    refine (HLG.out _ X1).mono ?_
    rintro e w1' ⟨rfl, rfl⟩
    go_wp2_with fail
    refine (HE.out _ X1).mono ?_
    rintro e w2 ⟨a2, c2, rfl, x2, r2⟩
    have R2 := Lib.hid (r2 Any (fun _ h => h.elim))
    have X2 := X1.trans x2
    have q2 : ∀ j, w2.cell? ⟨w.heap.size, j, none⟩ = (#[.int .i64 m1, .int .i64 m2, .int .i64 m3, .int .i64 m4, .int .i64 m5, .int .i64 m6, .int .i64 m7, .bool m8, .int .i64 m9, .slice a n c] : Array Value)[j]? := (BV.ext (x1.trans x2)).cell
    clear r2 q1
    go_wp2_with fail
    refine (HT.out _ X2).mono ?_
    rintro e w3 ⟨a3, c3, he, x3, r3⟩
    simp only [HNN.out] at he r3
    subst he
    have HE3 := Lib.hid (HR.out w3 _ (r3.weak (by omega) (fun _ _ h => h.elim)))
    clear r3 q2
    go_wp2_with fail
    refine HE3.out.mono ?_
    rintro e w4 ⟨a4, c4, rfl, x4, r4⟩
    have R4 := Lib.hid (r4 Any (fun _ h => h.elim))
    have X4 := (X2.trans x3).trans x4
    have hc1 := (R2.out.ext (x3.trans x4)).conv (P := Try.prog) 25 9 5 Try.underlying25 Try.underlying5 Try.underlying9
    have hc2 := R4.out.conv (P := Try.prog) 25 9 5 Try.underlying25 Try.underlying5 Try.underlying9
    generalize strOfNums D = S at *
    clear r4 HE3 R2 R4 HE HR HT HLG
    generalize D.length = dl at *
    have hEE : (E == E) = true := by simp
    have hSS : (S.toList == S.toList) = true := by simp
    go_wp2_with fail
    go_ret
    exact ⟨rfl, X4⟩
  · rw [hlg] at HLG
    obtain ⟨a, c, rfl, hc1, hc2⟩ := hv.form
    obtain ⟨m1, m2, m3, m4, m5, m6, m7, m8, m9, vs⟩ := m
    simp only at *
    clear HE HR hv hlg
    generalize vs.length = n at *
    go_enter Try.func10, Try.ntmps10
    go_upto_region 1 with fail
    have BV := Bk.new w #[.int .i64 m1, .int .i64 m2, .int .i64 m3, .int .i64 m4, .int .i64 m5, .int .i64 m6, .int .i64 m7, .bool m8, .int .i64 m9, .slice a n c] 71 w.heap.size rfl
    have X0 : Ext w (w.alloc (.cells #[.int .i64 m1, .int .i64 m2, .int .i64 m3, .int .i64 m4, .int .i64 m5, .int .i64 m6, .int .i64 m7, .bool m8, .int .i64 m9, .slice a n c] 71)) := (Ext.refl w).alloc _
    generalize w.alloc (.cells #[.int .i64 m1, .int .i64 m2, .int .i64 m3, .int .i64 m4, .int .i64 m5, .int .i64 m6, .int .i64 m7, .bool m8, .int .i64 m9, .slice a n c] 71) = W at *
    go_wp2_with fail
    refine (HK.out _).mono ?_
    rintro e w1 ⟨rfl, x1⟩
    have X1 := X0.trans x1
    have q1 : ∀ j, w1.cell? ⟨w.heap.size, j, none⟩ = (#[.int .i64 m1, .int .i64 m2, .int .i64 m3, .int .i64 m4, .int .i64 m5, .int .i64 m6, .int .i64 m7, .bool m8, .int .i64 m9, .slice a n c] : Array Value)[j]? := (BV.ext x1).cell
    go_wp2_with fail
    refine (HLG.out _ X1).mono ?_
    rintro e w1' ⟨rfl, rfl⟩
    go_wp2_with fail
    go_ret
    exact ⟨rfl, X1⟩
end Go.Proofs.Ytjaofbfppnmdjaa
