/- The walk of the statement SubscriberForeign. -/
import Derived.Test.YtopmhaebjpmbfaaMsgR
import Derived.Test.YtopmhaebjpmbfaaSubK
namespace Go.Proofs.Ytopmhaebjpmbfaa
open Go.RowKit
attribute [local go_sem ↓] Go.wp_at_zero Go.wp_at_succ

theorem large_lenF {l : List Val} (h : largeB l = false) : l.length ≤ 60 := by
  unfold largeB at h
  simp only [Bool.or_eq_false_iff, decide_eq_false_iff_not] at h
  omega
theorem takeS_own (s : SSt) (m : Msg) (h1 : chkM m = 0) (h2 : m.pub = s.pub) (h3 : m.rev = s.rev) : (takeS s m).2 ≠ 0 := by
  unfold takeS
  rw [if_neg (by intro h; rcases h with h | h | h <;> contradiction)]
  repeat' split
  all_goals simp
theorem takeS_for (s : SSt) (m : Msg) (h : chkM m ≠ 0 ∨ m.pub ≠ s.pub ∨ m.rev ≠ s.rev) : takeS s m = (s, 0) := by
  unfold takeS
  rw [if_pos h]
set_option maxRecDepth 100000 in
set_option maxHeartbeats 16000000 in
theorem foreign_l1 (s : SSt) (m : Msg) (v u : Value) (w : World) (hv : RF Any 6 valE w v s.vals) (hu : RF Any 6 valE w u m.vals) (hlo : -9223372036854775808 ≤ s.lost ∧ s.lost ≤ 9223372036854775807) (hl : largeB s.vals = true) : Calls Try.prog 7 #[subA s v, msgA m u] w fun e w' => e = .returned (.bool true) ∧ Ext w w' := by
  have HK := Lib.hid (fun w1 => known14_any w1)
  have HLs := Lib.hid (fun w1 (he : Ext w w1) => large11_any s.vals v w1 (hv.ext he))
  have HLm := Lib.hid (fun w1 (he : Ext w w1) => large11_any m.vals u w1 (hu.ext he))
  obtain ⟨ja, jc, rfl, hj1, hj2⟩ := hv.form
  obtain ⟨ka, kc, rfl, hk1, hk2⟩ := hu.form
  have HIs := Lib.hid (fun w1 (he : Ext w w1) => hv.ext he)
  have HTK := Lib.hid (fun (h : s.vals.length ≤ 1000000000) w1 (he : Ext w w1) => take_all s m _ _ w1 (hv.ext he) (hu.ext he) h hlo)
  have HTO := Lib.hid (fun (h : m.vals.length ≤ 1000000) w1 (he : Ext w w1) => to12_any m _ w1 (hu.ext he) h)
  have HCR := Lib.hid (fun v w1 h => checkMR_any m v w1 h)
  have HAL := Lib.hid (fun (hl : s.vals.length ≤ 1000000) v w1 (h : RF Any 6 valE w1 v s.vals) => all11_any s.vals v w1 h hl)
  have HSR := Lib.hid (fun va vb w1 h h' => sameVR_any s.vals s.vals va vb w1 h h')
  simp only [decide_true] at HSR
  have HSS := Lib.hid (fun v v' w1 h1 h2 => sameSub_eq s v v' w1 h1 h2)
  clear hv hu
  rw [hl] at HLs
  clear hl HLm
  obtain ⟨s1, s2, s3, s4, s5, s6, s7, s8, vs⟩ := s
  obtain ⟨m1, m2, m3, m4, m5, m6, m7, m8, m9, vm⟩ := m
  simp only at *
  generalize hn : vs.length = ns at *
  have HNS := Lib.hid hn
  generalize hnm : vm.length = nm at *
  have HNM := Lib.hid hnm
  clear hnm hn
  clear HTK HTO HCR HAL HSR HSS HIs hj1 hj2 hk1 hk2 hlo
  go_enter Try.func7, Try.ntmps7
  go_wp2_with fail
  have B0 := Lib.hid ((Bk.new w #[.int .i64 s1, .int .i64 s2, .bool s3, .int .i64 s4, .int .i64 s5, .int .i64 s6, .int .i64 s7, .bool s8, .slice ja ns jc] 50 w.heap.size rfl).alloc (.cells #[.int .i64 m1, .int .i64 m2, .int .i64 m3, .int .i64 m4, .int .i64 m5, .int .i64 m6, .int .i64 m7, .bool m8, .int .i64 m9, .slice ka nm kc] 39))
  have B1 := Lib.hid (Bk.new (w.alloc (.cells #[.int .i64 s1, .int .i64 s2, .bool s3, .int .i64 s4, .int .i64 s5, .int .i64 s6, .int .i64 s7, .bool s8, .slice ja ns jc] 50)) #[.int .i64 m1, .int .i64 m2, .int .i64 m3, .int .i64 m4, .int .i64 m5, .int .i64 m6, .int .i64 m7, .bool m8, .int .i64 m9, .slice ka nm kc] 39 (w.heap.size + 1) (by simp))
  have X0 : Ext w ((w.alloc (.cells #[.int .i64 s1, .int .i64 s2, .bool s3, .int .i64 s4, .int .i64 s5, .int .i64 s6, .int .i64 s7, .bool s8, .slice ja ns jc] 50)).alloc (.cells #[.int .i64 m1, .int .i64 m2, .int .i64 m3, .int .i64 m4, .int .i64 m5, .int .i64 m6, .int .i64 m7, .bool m8, .int .i64 m9, .slice ka nm kc] 39)) := ((Ext.refl w).alloc _).alloc _
  generalize (w.alloc (.cells #[.int .i64 s1, .int .i64 s2, .bool s3, .int .i64 s4, .int .i64 s5, .int .i64 s6, .int .i64 s7, .bool s8, .slice ja ns jc] 50)).alloc (.cells #[.int .i64 m1, .int .i64 m2, .int .i64 m3, .int .i64 m4, .int .i64 m5, .int .i64 m6, .int .i64 m7, .bool m8, .int .i64 m9, .slice ka nm kc] 39) = W0 at *
  refine (HK.out _).mono ?_
  rintro e w1 ⟨rfl, x1⟩
  have B01 := Lib.hid (B0.out.ext x1)
  have B11 := Lib.hid (B1.out.ext x1)
  have X1 : Ext w w1 := X0.trans x1
  have q0 : ∀ j, w1.cell? ⟨w.heap.size, j, none⟩ = (#[.int .i64 s1, .int .i64 s2, .bool s3, .int .i64 s4, .int .i64 s5, .int .i64 s6, .int .i64 s7, .bool s8, .slice ja ns jc] : Array Value)[j]? := B01.out.cell
  have q1 : ∀ j, w1.cell? ⟨w.heap.size + 1, j, none⟩ = (#[.int .i64 m1, .int .i64 m2, .int .i64 m3, .int .i64 m4, .int .i64 m5, .int .i64 m6, .int .i64 m7, .bool m8, .int .i64 m9, .slice ka nm kc] : Array Value)[j]? := B11.out.cell
  clear x1 X0 B0 B1
  go_wp2_with fail
  refine (HLs.out _ X1).mono ?_
  rintro e w1' ⟨rfl, rfl⟩
  go_wp2_with fail
  go_ret
  exact ⟨rfl, X1⟩
set_option maxRecDepth 100000 in
set_option maxHeartbeats 16000000 in
theorem foreign_l2 (s : SSt) (m : Msg) (v u : Value) (w : World) (hv : RF Any 6 valE w v s.vals) (hu : RF Any 6 valE w u m.vals) (hlo : -9223372036854775808 ≤ s.lost ∧ s.lost ≤ 9223372036854775807) (hl : largeB s.vals = false) (hl2 : largeB m.vals = true) : Calls Try.prog 7 #[subA s v, msgA m u] w fun e w' => e = .returned (.bool true) ∧ Ext w w' := by
  have HK := Lib.hid (fun w1 => known14_any w1)
  have HLs := Lib.hid (fun w1 (he : Ext w w1) => large11_any s.vals v w1 (hv.ext he))
  have HLm := Lib.hid (fun w1 (he : Ext w w1) => large11_any m.vals u w1 (hu.ext he))
  obtain ⟨ja, jc, rfl, hj1, hj2⟩ := hv.form
  obtain ⟨ka, kc, rfl, hk1, hk2⟩ := hu.form
  have HIs := Lib.hid (fun w1 (he : Ext w w1) => hv.ext he)
  have HTK := Lib.hid (fun (h : s.vals.length ≤ 1000000000) w1 (he : Ext w w1) => take_all s m _ _ w1 (hv.ext he) (hu.ext he) h hlo)
  have HTO := Lib.hid (fun (h : m.vals.length ≤ 1000000) w1 (he : Ext w w1) => to12_any m _ w1 (hu.ext he) h)
  have HCR := Lib.hid (fun v w1 h => checkMR_any m v w1 h)
  have HAL := Lib.hid (fun (hl : s.vals.length ≤ 1000000) v w1 (h : RF Any 6 valE w1 v s.vals) => all11_any s.vals v w1 h hl)
  have HSR := Lib.hid (fun va vb w1 h h' => sameVR_any s.vals s.vals va vb w1 h h')
  simp only [decide_true] at HSR
  have HSS := Lib.hid (fun v v' w1 h1 h2 => sameSub_eq s v v' w1 h1 h2)
  clear hv hu
  rw [hl] at HLs
  rw [hl2] at HLm
  clear hl hl2
  obtain ⟨s1, s2, s3, s4, s5, s6, s7, s8, vs⟩ := s
  obtain ⟨m1, m2, m3, m4, m5, m6, m7, m8, m9, vm⟩ := m
  simp only at *
  generalize hn : vs.length = ns at *
  have HNS := Lib.hid hn
  generalize hnm : vm.length = nm at *
  have HNM := Lib.hid hnm
  clear hnm hn
  clear HTK HTO HCR HAL HSR HSS HIs hj1 hj2 hk1 hk2 hlo
  go_enter Try.func7, Try.ntmps7
  go_wp2_with fail
  have B0 := Lib.hid ((Bk.new w #[.int .i64 s1, .int .i64 s2, .bool s3, .int .i64 s4, .int .i64 s5, .int .i64 s6, .int .i64 s7, .bool s8, .slice ja ns jc] 50 w.heap.size rfl).alloc (.cells #[.int .i64 m1, .int .i64 m2, .int .i64 m3, .int .i64 m4, .int .i64 m5, .int .i64 m6, .int .i64 m7, .bool m8, .int .i64 m9, .slice ka nm kc] 39))
  have B1 := Lib.hid (Bk.new (w.alloc (.cells #[.int .i64 s1, .int .i64 s2, .bool s3, .int .i64 s4, .int .i64 s5, .int .i64 s6, .int .i64 s7, .bool s8, .slice ja ns jc] 50)) #[.int .i64 m1, .int .i64 m2, .int .i64 m3, .int .i64 m4, .int .i64 m5, .int .i64 m6, .int .i64 m7, .bool m8, .int .i64 m9, .slice ka nm kc] 39 (w.heap.size + 1) (by simp))
  have X0 : Ext w ((w.alloc (.cells #[.int .i64 s1, .int .i64 s2, .bool s3, .int .i64 s4, .int .i64 s5, .int .i64 s6, .int .i64 s7, .bool s8, .slice ja ns jc] 50)).alloc (.cells #[.int .i64 m1, .int .i64 m2, .int .i64 m3, .int .i64 m4, .int .i64 m5, .int .i64 m6, .int .i64 m7, .bool m8, .int .i64 m9, .slice ka nm kc] 39)) := ((Ext.refl w).alloc _).alloc _
  generalize (w.alloc (.cells #[.int .i64 s1, .int .i64 s2, .bool s3, .int .i64 s4, .int .i64 s5, .int .i64 s6, .int .i64 s7, .bool s8, .slice ja ns jc] 50)).alloc (.cells #[.int .i64 m1, .int .i64 m2, .int .i64 m3, .int .i64 m4, .int .i64 m5, .int .i64 m6, .int .i64 m7, .bool m8, .int .i64 m9, .slice ka nm kc] 39) = W0 at *
  refine (HK.out _).mono ?_
  rintro e w1 ⟨rfl, x1⟩
  have B01 := Lib.hid (B0.out.ext x1)
  have B11 := Lib.hid (B1.out.ext x1)
  have X1 : Ext w w1 := X0.trans x1
  have q0 : ∀ j, w1.cell? ⟨w.heap.size, j, none⟩ = (#[.int .i64 s1, .int .i64 s2, .bool s3, .int .i64 s4, .int .i64 s5, .int .i64 s6, .int .i64 s7, .bool s8, .slice ja ns jc] : Array Value)[j]? := B01.out.cell
  have q1 : ∀ j, w1.cell? ⟨w.heap.size + 1, j, none⟩ = (#[.int .i64 m1, .int .i64 m2, .int .i64 m3, .int .i64 m4, .int .i64 m5, .int .i64 m6, .int .i64 m7, .bool m8, .int .i64 m9, .slice ka nm kc] : Array Value)[j]? := B11.out.cell
  clear x1 X0 B0 B1
  go_wp2_with fail
  refine (HLs.out _ X1).mono ?_
  rintro e w1' ⟨rfl, rfl⟩
  go_wp2_with fail
  refine (HLm.out _ X1).mono ?_
  rintro e w1' ⟨rfl, rfl⟩
  go_wp2_with fail
  go_ret
  exact ⟨rfl, X1⟩
set_option maxRecDepth 100000 in
set_option maxHeartbeats 16000000 in
theorem foreign_pub (s : SSt) (m : Msg) (v u : Value) (w : World) (hv : RF Any 6 valE w v s.vals) (hu : RF Any 6 valE w u m.vals) (hlo : -9223372036854775808 ≤ s.lost ∧ s.lost ≤ 9223372036854775807) (hl : largeB s.vals = false) (hl2 : largeB m.vals = false) (hfor : chkM m ≠ 0 ∨ m.pub ≠ s.pub ∨ m.rev ≠ s.rev) (hp : m.pub ≠ s.pub) : Calls Try.prog 7 #[subA s v, msgA m u] w fun e w' => e = .returned (.bool true) ∧ Ext w w' := by
  have HK := Lib.hid (fun w1 => known14_any w1)
  have HLs := Lib.hid (fun w1 (he : Ext w w1) => large11_any s.vals v w1 (hv.ext he))
  have HLm := Lib.hid (fun w1 (he : Ext w w1) => large11_any m.vals u w1 (hu.ext he))
  obtain ⟨ja, jc, rfl, hj1, hj2⟩ := hv.form
  obtain ⟨ka, kc, rfl, hk1, hk2⟩ := hu.form
  have HIs := Lib.hid (fun w1 (he : Ext w w1) => hv.ext he)
  have HTK := Lib.hid (fun (h : s.vals.length ≤ 1000000000) w1 (he : Ext w w1) => take_all s m _ _ w1 (hv.ext he) (hu.ext he) h hlo)
  have HTO := Lib.hid (fun (h : m.vals.length ≤ 1000000) w1 (he : Ext w w1) => to12_any m _ w1 (hu.ext he) h)
  have HCR := Lib.hid (fun v w1 h => checkMR_any m v w1 h)
  have HAL := Lib.hid (fun (hl : s.vals.length ≤ 1000000) v w1 (h : RF Any 6 valE w1 v s.vals) => all11_any s.vals v w1 h hl)
  have HSR := Lib.hid (fun va vb w1 h h' => sameVR_any s.vals s.vals va vb w1 h h')
  simp only [decide_true] at HSR
  have HSS := Lib.hid (fun v v' w1 h1 h2 => sameSub_eq s v v' w1 h1 h2)
  clear hv hu
  have hle1 := large_lenF hl
  have hle2 := large_lenF hl2
  rw [hl] at HLs
  rw [hl2] at HLm
  have HTk := Lib.hid (HTK.out (by omega))
  have HTo := Lib.hid (HTO.out (by omega))
  have HAl := Lib.hid (HAL.out (by omega))
  clear hl hl2 HTK HTO HAL hj2 hk2 hlo
  rw [takeS_for s m hfor] at HTk
  clear hfor
  generalize chkM m = cm at *
  obtain ⟨s1, s2, s3, s4, s5, s6, s7, s8, vs⟩ := s
  obtain ⟨m1, m2, m3, m4, m5, m6, m7, m8, m9, vm⟩ := m
  simp only at *
  generalize hn : vs.length = ns at *
  have HNS := Lib.hid hn
  generalize hnm : vm.length = nm at *
  have HNM := Lib.hid hnm
  clear hnm hn
  have hq : (m1 != s1) = true := by simpa using hp
  clear hp
  go_enter Try.func7, Try.ntmps7
  go_wp2_with fail
  have B0 := Lib.hid ((Bk.new w #[.int .i64 s1, .int .i64 s2, .bool s3, .int .i64 s4, .int .i64 s5, .int .i64 s6, .int .i64 s7, .bool s8, .slice ja ns jc] 50 w.heap.size rfl).alloc (.cells #[.int .i64 m1, .int .i64 m2, .int .i64 m3, .int .i64 m4, .int .i64 m5, .int .i64 m6, .int .i64 m7, .bool m8, .int .i64 m9, .slice ka nm kc] 39))
  have B1 := Lib.hid (Bk.new (w.alloc (.cells #[.int .i64 s1, .int .i64 s2, .bool s3, .int .i64 s4, .int .i64 s5, .int .i64 s6, .int .i64 s7, .bool s8, .slice ja ns jc] 50)) #[.int .i64 m1, .int .i64 m2, .int .i64 m3, .int .i64 m4, .int .i64 m5, .int .i64 m6, .int .i64 m7, .bool m8, .int .i64 m9, .slice ka nm kc] 39 (w.heap.size + 1) (by simp))
  have X0 : Ext w ((w.alloc (.cells #[.int .i64 s1, .int .i64 s2, .bool s3, .int .i64 s4, .int .i64 s5, .int .i64 s6, .int .i64 s7, .bool s8, .slice ja ns jc] 50)).alloc (.cells #[.int .i64 m1, .int .i64 m2, .int .i64 m3, .int .i64 m4, .int .i64 m5, .int .i64 m6, .int .i64 m7, .bool m8, .int .i64 m9, .slice ka nm kc] 39)) := ((Ext.refl w).alloc _).alloc _
  generalize (w.alloc (.cells #[.int .i64 s1, .int .i64 s2, .bool s3, .int .i64 s4, .int .i64 s5, .int .i64 s6, .int .i64 s7, .bool s8, .slice ja ns jc] 50)).alloc (.cells #[.int .i64 m1, .int .i64 m2, .int .i64 m3, .int .i64 m4, .int .i64 m5, .int .i64 m6, .int .i64 m7, .bool m8, .int .i64 m9, .slice ka nm kc] 39) = W0 at *
  refine (HK.out _).mono ?_
  rintro e w1 ⟨rfl, x1⟩
  have B01 := Lib.hid (B0.out.ext x1)
  have B11 := Lib.hid (B1.out.ext x1)
  have X1 : Ext w w1 := X0.trans x1
  have q0 : ∀ j, w1.cell? ⟨w.heap.size, j, none⟩ = (#[.int .i64 s1, .int .i64 s2, .bool s3, .int .i64 s4, .int .i64 s5, .int .i64 s6, .int .i64 s7, .bool s8, .slice ja ns jc] : Array Value)[j]? := B01.out.cell
  have q1 : ∀ j, w1.cell? ⟨w.heap.size + 1, j, none⟩ = (#[.int .i64 m1, .int .i64 m2, .int .i64 m3, .int .i64 m4, .int .i64 m5, .int .i64 m6, .int .i64 m7, .bool m8, .int .i64 m9, .slice ka nm kc] : Array Value)[j]? := B11.out.cell
  clear x1 X0 B0 B1
  go_wp2_with fail
  refine (HLs.out _ X1).mono ?_
  rintro e w1' ⟨rfl, rfl⟩
  go_wp2_with fail
  refine (HLm.out _ X1).mono ?_
  rintro e w1' ⟨rfl, rfl⟩
  go_wp2_with fail
  refine (HTk.out _ X1).mono ?_
  rintro e w4 ⟨a4, c4, he, x4, r4⟩
  simp only [HNS.out] at he r4
  subst he
  clear q0 q1
  go_upto_region 6 with fail
  have B5 := Lib.hid ((B01.out.ext x4).alloc (.cells #[.int .i64 s1, .int .i64 s2, .bool s3, .int .i64 s4, .int .i64 s5, .int .i64 s6, .int .i64 s7, .bool s8, .slice a4 ns c4] 50))
  have M5 := Lib.hid ((B11.out.ext x4).alloc (.cells #[.int .i64 s1, .int .i64 s2, .bool s3, .int .i64 s4, .int .i64 s5, .int .i64 s6, .int .i64 s7, .bool s8, .slice a4 ns c4] 50))
  have T5 := Lib.hid (Bk.new w4 #[.int .i64 s1, .int .i64 s2, .bool s3, .int .i64 s4, .int .i64 s5, .int .i64 s6, .int .i64 s7, .bool s8, .slice a4 ns c4] 50 w4.heap.size rfl)
  have RT5 := Lib.hid ((r4.ext ((Ext.refl w4).alloc (.cells #[.int .i64 s1, .int .i64 s2, .bool s3, .int .i64 s4, .int .i64 s5, .int .i64 s6, .int .i64 s7, .bool s8, .slice a4 ns c4] 50))).weak (by omega) (V' := Any) (fun _ _ h => h.elim))
  have X5 : Ext w (w4.alloc (.cells #[.int .i64 s1, .int .i64 s2, .bool s3, .int .i64 s4, .int .i64 s5, .int .i64 s6, .int .i64 s7, .bool s8, .slice a4 ns c4] 50)) := (X1.trans x4).alloc _
  clear r4 x4 B01 B11
  generalize w4.alloc (.cells #[.int .i64 s1, .int .i64 s2, .bool s3, .int .i64 s4, .int .i64 s5, .int .i64 s6, .int .i64 s7, .bool s8, .slice a4 ns c4] 50) = W5 at *
  generalize w4.heap.size = tb at *
  have q0 : ∀ j, W5.cell? ⟨w.heap.size, j, none⟩ = (#[.int .i64 s1, .int .i64 s2, .bool s3, .int .i64 s4, .int .i64 s5, .int .i64 s6, .int .i64 s7, .bool s8, .slice ja ns jc] : Array Value)[j]? := B5.out.cell
  have q1 : ∀ j, W5.cell? ⟨w.heap.size + 1, j, none⟩ = (#[.int .i64 m1, .int .i64 m2, .int .i64 m3, .int .i64 m4, .int .i64 m5, .int .i64 m6, .int .i64 m7, .bool m8, .int .i64 m9, .slice ka nm kc] : Array Value)[j]? := M5.out.cell
  have qt : ∀ j, W5.cell? ⟨tb, j, none⟩ = (#[.int .i64 s1, .int .i64 s2, .bool s3, .int .i64 s4, .int .i64 s5, .int .i64 s6, .int .i64 s7, .bool s8, .slice a4 ns c4] : Array Value)[j]? := T5.out.cell
  clear M5
  go_upto_region 9 with fail
  clear q0 q1 qt
  have HT5 := Lib.hid (fun w1 (he : Ext W5 w1) => RT5.out.ext he)
  have p0 : (∀ j, W5.cell? ⟨w.heap.size, j, none⟩ = (#[.int .i64 s1, .int .i64 s2, .bool s3, .int .i64 s4, .int .i64 s5, .int .i64 s6, .int .i64 s7, .bool s8, .slice ja ns jc] : Array Value)[j]?) ∧ (∀ j, W5.cell? ⟨tb, j, none⟩ = (#[.int .i64 s1, .int .i64 s2, .bool s3, .int .i64 s4, .int .i64 s5, .int .i64 s6, .int .i64 s7, .bool s8, .slice a4 ns c4] : Array Value)[j]?) := ⟨B5.out.cell, T5.out.cell⟩
  have HBC : Hid (∀ w', Ext W5 w' → (∀ j, w'.cell? ⟨w.heap.size, j, none⟩ = (#[.int .i64 s1, .int .i64 s2, .bool s3, .int .i64 s4, .int .i64 s5, .int .i64 s6, .int .i64 s7, .bool s8, .slice ja ns jc] : Array Value)[j]?) ∧ (∀ j, w'.cell? ⟨tb, j, none⟩ = (#[.int .i64 s1, .int .i64 s2, .bool s3, .int .i64 s4, .int .i64 s5, .int .i64 s6, .int .i64 s7, .bool s8, .slice a4 ns c4] : Array Value)[j]?)) := fun w' he => ⟨(B5.out.ext he).cell, (T5.out.ext he).cell⟩
  have P0 := Lib.hid p0
  clear p0
  go_region_held3 (fun w' => (∀ j, w'.cell? ⟨w.heap.size, j, none⟩ = (#[.int .i64 s1, .int .i64 s2, .bool s3, .int .i64 s4, .int .i64 s5, .int .i64 s6, .int .i64 s7, .bool s8, .slice ja ns jc] : Array Value)[j]?) ∧ (∀ j, w'.cell? ⟨tb, j, none⟩ = (#[.int .i64 s1, .int .i64 s2, .bool s3, .int .i64 s4, .int .i64 s5, .int .i64 s6, .int .i64 s7, .bool s8, .slice a4 ns c4] : Array Value)[j]?))
    (first | (exact HBC.out _ (by first | (with_reducible exact (Ext.refl W5).drew) | (with_reducible exact D1) | (with_reducible exact D2) | (with_reducible exact D3) | (with_reducible exact D4) | fail)) | fail)
    (first
      | (go_at_call 28; (with_reducible refine (HSS.out _ _ _ (HIs.out _ (X5.trans (Ext.refl W5).drew)) (HT5.out _ (Ext.refl W5).drew)).mono ?_); rintro e y1 ⟨rfl, g1⟩; have D1 : Ext W5 y1 := (Ext.refl W5).drew.trans g1; clear g1)
      | (go_at_call 30; (with_reducible refine (HAl.out _ _ (HT5.out _ D1)).mono ?_); rintro e y2 ⟨a2, c2, he, g2, r2⟩; have D2 : Ext W5 y2 := D1.trans g2; rw [HNS.out] at he r2; subst he; have HR2 := Lib.hid (fun w1 (he : Ext y2 w1) => (r2.ext he).weak (by omega) (V' := Any) (fun _ _ h => h.elim)); clear r2; clear g2)
      | (go_at_call 30; (with_reducible refine (HAl.out _ _ (HIs.out _ (X5.trans D2))).mono ?_); rintro e y3 ⟨a3, c3, he, g3, r3⟩; have D3 : Ext W5 y3 := D2.trans g3; rw [HNS.out] at he r3; subst he; have HR3 := Lib.hid (And.intro (HR2.out _ g3) (r3.weak (by omega) (V' := Any) (fun _ _ h => h.elim))); clear r3; clear g3)
      | (go_at_call 29; (with_reducible refine (HSR.out _ _ _ HR3.out.1 HR3.out.2).mono ?_); rintro e y4 ⟨rfl, g4⟩; have D4 : Ext W5 y4 := D3.trans g4; clear g4)
      | fail)
  go_wp2_with fail
  go_ret
  exact ⟨rfl, X5.trans D4⟩
set_option maxRecDepth 100000 in
set_option maxHeartbeats 16000000 in
theorem foreign_rev (s : SSt) (m : Msg) (v u : Value) (w : World) (hv : RF Any 6 valE w v s.vals) (hu : RF Any 6 valE w u m.vals) (hlo : -9223372036854775808 ≤ s.lost ∧ s.lost ≤ 9223372036854775807) (hl : largeB s.vals = false) (hl2 : largeB m.vals = false) (hfor : chkM m ≠ 0 ∨ m.pub ≠ s.pub ∨ m.rev ≠ s.rev) (hp : m.pub = s.pub) (hr : m.rev ≠ s.rev) : Calls Try.prog 7 #[subA s v, msgA m u] w fun e w' => e = .returned (.bool true) ∧ Ext w w' := by
  have HK := Lib.hid (fun w1 => known14_any w1)
  have HLs := Lib.hid (fun w1 (he : Ext w w1) => large11_any s.vals v w1 (hv.ext he))
  have HLm := Lib.hid (fun w1 (he : Ext w w1) => large11_any m.vals u w1 (hu.ext he))
  obtain ⟨ja, jc, rfl, hj1, hj2⟩ := hv.form
  obtain ⟨ka, kc, rfl, hk1, hk2⟩ := hu.form
  have HIs := Lib.hid (fun w1 (he : Ext w w1) => hv.ext he)
  have HTK := Lib.hid (fun (h : s.vals.length ≤ 1000000000) w1 (he : Ext w w1) => take_all s m _ _ w1 (hv.ext he) (hu.ext he) h hlo)
  have HTO := Lib.hid (fun (h : m.vals.length ≤ 1000000) w1 (he : Ext w w1) => to12_any m _ w1 (hu.ext he) h)
  have HCR := Lib.hid (fun v w1 h => checkMR_any m v w1 h)
  have HAL := Lib.hid (fun (hl : s.vals.length ≤ 1000000) v w1 (h : RF Any 6 valE w1 v s.vals) => all11_any s.vals v w1 h hl)
  have HSR := Lib.hid (fun va vb w1 h h' => sameVR_any s.vals s.vals va vb w1 h h')
  simp only [decide_true] at HSR
  have HSS := Lib.hid (fun v v' w1 h1 h2 => sameSub_eq s v v' w1 h1 h2)
  clear hv hu
  have hle1 := large_lenF hl
  have hle2 := large_lenF hl2
  rw [hl] at HLs
  rw [hl2] at HLm
  have HTk := Lib.hid (HTK.out (by omega))
  have HTo := Lib.hid (HTO.out (by omega))
  have HAl := Lib.hid (HAL.out (by omega))
  clear hl hl2 HTK HTO HAL hj2 hk2 hlo
  rw [takeS_for s m hfor] at HTk
  clear hfor
  generalize chkM m = cm at *
  obtain ⟨s1, s2, s3, s4, s5, s6, s7, s8, vs⟩ := s
  obtain ⟨m1, m2, m3, m4, m5, m6, m7, m8, m9, vm⟩ := m
  simp only at *
  generalize hn : vs.length = ns at *
  have HNS := Lib.hid hn
  generalize hnm : vm.length = nm at *
  have HNM := Lib.hid hnm
  clear hnm hn
  have hq0 : (m1 != s1) = false := by simpa using hp
  clear hp
  have hq : (m9 != s2) = true := by simpa using hr
  clear hr
  go_enter Try.func7, Try.ntmps7
  go_wp2_with fail
  have B0 := Lib.hid ((Bk.new w #[.int .i64 s1, .int .i64 s2, .bool s3, .int .i64 s4, .int .i64 s5, .int .i64 s6, .int .i64 s7, .bool s8, .slice ja ns jc] 50 w.heap.size rfl).alloc (.cells #[.int .i64 m1, .int .i64 m2, .int .i64 m3, .int .i64 m4, .int .i64 m5, .int .i64 m6, .int .i64 m7, .bool m8, .int .i64 m9, .slice ka nm kc] 39))
  have B1 := Lib.hid (Bk.new (w.alloc (.cells #[.int .i64 s1, .int .i64 s2, .bool s3, .int .i64 s4, .int .i64 s5, .int .i64 s6, .int .i64 s7, .bool s8, .slice ja ns jc] 50)) #[.int .i64 m1, .int .i64 m2, .int .i64 m3, .int .i64 m4, .int .i64 m5, .int .i64 m6, .int .i64 m7, .bool m8, .int .i64 m9, .slice ka nm kc] 39 (w.heap.size + 1) (by simp))
  have X0 : Ext w ((w.alloc (.cells #[.int .i64 s1, .int .i64 s2, .bool s3, .int .i64 s4, .int .i64 s5, .int .i64 s6, .int .i64 s7, .bool s8, .slice ja ns jc] 50)).alloc (.cells #[.int .i64 m1, .int .i64 m2, .int .i64 m3, .int .i64 m4, .int .i64 m5, .int .i64 m6, .int .i64 m7, .bool m8, .int .i64 m9, .slice ka nm kc] 39)) := ((Ext.refl w).alloc _).alloc _
  generalize (w.alloc (.cells #[.int .i64 s1, .int .i64 s2, .bool s3, .int .i64 s4, .int .i64 s5, .int .i64 s6, .int .i64 s7, .bool s8, .slice ja ns jc] 50)).alloc (.cells #[.int .i64 m1, .int .i64 m2, .int .i64 m3, .int .i64 m4, .int .i64 m5, .int .i64 m6, .int .i64 m7, .bool m8, .int .i64 m9, .slice ka nm kc] 39) = W0 at *
  refine (HK.out _).mono ?_
  rintro e w1 ⟨rfl, x1⟩
  have B01 := Lib.hid (B0.out.ext x1)
  have B11 := Lib.hid (B1.out.ext x1)
  have X1 : Ext w w1 := X0.trans x1
  have q0 : ∀ j, w1.cell? ⟨w.heap.size, j, none⟩ = (#[.int .i64 s1, .int .i64 s2, .bool s3, .int .i64 s4, .int .i64 s5, .int .i64 s6, .int .i64 s7, .bool s8, .slice ja ns jc] : Array Value)[j]? := B01.out.cell
  have q1 : ∀ j, w1.cell? ⟨w.heap.size + 1, j, none⟩ = (#[.int .i64 m1, .int .i64 m2, .int .i64 m3, .int .i64 m4, .int .i64 m5, .int .i64 m6, .int .i64 m7, .bool m8, .int .i64 m9, .slice ka nm kc] : Array Value)[j]? := B11.out.cell
  clear x1 X0 B0 B1
  go_wp2_with fail
  refine (HLs.out _ X1).mono ?_
  rintro e w1' ⟨rfl, rfl⟩
  go_wp2_with fail
  refine (HLm.out _ X1).mono ?_
  rintro e w1' ⟨rfl, rfl⟩
  go_wp2_with fail
  refine (HTk.out _ X1).mono ?_
  rintro e w4 ⟨a4, c4, he, x4, r4⟩
  simp only [HNS.out] at he r4
  subst he
  clear q0 q1
  go_upto_region 6 with fail
  have B5 := Lib.hid ((B01.out.ext x4).alloc (.cells #[.int .i64 s1, .int .i64 s2, .bool s3, .int .i64 s4, .int .i64 s5, .int .i64 s6, .int .i64 s7, .bool s8, .slice a4 ns c4] 50))
  have M5 := Lib.hid ((B11.out.ext x4).alloc (.cells #[.int .i64 s1, .int .i64 s2, .bool s3, .int .i64 s4, .int .i64 s5, .int .i64 s6, .int .i64 s7, .bool s8, .slice a4 ns c4] 50))
  have T5 := Lib.hid (Bk.new w4 #[.int .i64 s1, .int .i64 s2, .bool s3, .int .i64 s4, .int .i64 s5, .int .i64 s6, .int .i64 s7, .bool s8, .slice a4 ns c4] 50 w4.heap.size rfl)
  have RT5 := Lib.hid ((r4.ext ((Ext.refl w4).alloc (.cells #[.int .i64 s1, .int .i64 s2, .bool s3, .int .i64 s4, .int .i64 s5, .int .i64 s6, .int .i64 s7, .bool s8, .slice a4 ns c4] 50))).weak (by omega) (V' := Any) (fun _ _ h => h.elim))
  have X5 : Ext w (w4.alloc (.cells #[.int .i64 s1, .int .i64 s2, .bool s3, .int .i64 s4, .int .i64 s5, .int .i64 s6, .int .i64 s7, .bool s8, .slice a4 ns c4] 50)) := (X1.trans x4).alloc _
  clear r4 x4 B01 B11
  generalize w4.alloc (.cells #[.int .i64 s1, .int .i64 s2, .bool s3, .int .i64 s4, .int .i64 s5, .int .i64 s6, .int .i64 s7, .bool s8, .slice a4 ns c4] 50) = W5 at *
  generalize w4.heap.size = tb at *
  have q0 : ∀ j, W5.cell? ⟨w.heap.size, j, none⟩ = (#[.int .i64 s1, .int .i64 s2, .bool s3, .int .i64 s4, .int .i64 s5, .int .i64 s6, .int .i64 s7, .bool s8, .slice ja ns jc] : Array Value)[j]? := B5.out.cell
  have q1 : ∀ j, W5.cell? ⟨w.heap.size + 1, j, none⟩ = (#[.int .i64 m1, .int .i64 m2, .int .i64 m3, .int .i64 m4, .int .i64 m5, .int .i64 m6, .int .i64 m7, .bool m8, .int .i64 m9, .slice ka nm kc] : Array Value)[j]? := M5.out.cell
  have qt : ∀ j, W5.cell? ⟨tb, j, none⟩ = (#[.int .i64 s1, .int .i64 s2, .bool s3, .int .i64 s4, .int .i64 s5, .int .i64 s6, .int .i64 s7, .bool s8, .slice a4 ns c4] : Array Value)[j]? := T5.out.cell
  clear M5
  go_upto_region 9 with fail
  clear q0 q1 qt
  have HT5 := Lib.hid (fun w1 (he : Ext W5 w1) => RT5.out.ext he)
  have p0 : (∀ j, W5.cell? ⟨w.heap.size, j, none⟩ = (#[.int .i64 s1, .int .i64 s2, .bool s3, .int .i64 s4, .int .i64 s5, .int .i64 s6, .int .i64 s7, .bool s8, .slice ja ns jc] : Array Value)[j]?) ∧ (∀ j, W5.cell? ⟨tb, j, none⟩ = (#[.int .i64 s1, .int .i64 s2, .bool s3, .int .i64 s4, .int .i64 s5, .int .i64 s6, .int .i64 s7, .bool s8, .slice a4 ns c4] : Array Value)[j]?) := ⟨B5.out.cell, T5.out.cell⟩
  have HBC : Hid (∀ w', Ext W5 w' → (∀ j, w'.cell? ⟨w.heap.size, j, none⟩ = (#[.int .i64 s1, .int .i64 s2, .bool s3, .int .i64 s4, .int .i64 s5, .int .i64 s6, .int .i64 s7, .bool s8, .slice ja ns jc] : Array Value)[j]?) ∧ (∀ j, w'.cell? ⟨tb, j, none⟩ = (#[.int .i64 s1, .int .i64 s2, .bool s3, .int .i64 s4, .int .i64 s5, .int .i64 s6, .int .i64 s7, .bool s8, .slice a4 ns c4] : Array Value)[j]?)) := fun w' he => ⟨(B5.out.ext he).cell, (T5.out.ext he).cell⟩
  have P0 := Lib.hid p0
  clear p0
  go_region_held3 (fun w' => (∀ j, w'.cell? ⟨w.heap.size, j, none⟩ = (#[.int .i64 s1, .int .i64 s2, .bool s3, .int .i64 s4, .int .i64 s5, .int .i64 s6, .int .i64 s7, .bool s8, .slice ja ns jc] : Array Value)[j]?) ∧ (∀ j, w'.cell? ⟨tb, j, none⟩ = (#[.int .i64 s1, .int .i64 s2, .bool s3, .int .i64 s4, .int .i64 s5, .int .i64 s6, .int .i64 s7, .bool s8, .slice a4 ns c4] : Array Value)[j]?))
    (first | (exact HBC.out _ (by first | (with_reducible exact (Ext.refl W5).drew) | (with_reducible exact D1) | (with_reducible exact D2) | (with_reducible exact D3) | (with_reducible exact D4) | fail)) | fail)
    (first
      | (go_at_call 28; (with_reducible refine (HSS.out _ _ _ (HIs.out _ (X5.trans (Ext.refl W5).drew)) (HT5.out _ (Ext.refl W5).drew)).mono ?_); rintro e y1 ⟨rfl, g1⟩; have D1 : Ext W5 y1 := (Ext.refl W5).drew.trans g1; clear g1)
      | (go_at_call 30; (with_reducible refine (HAl.out _ _ (HT5.out _ D1)).mono ?_); rintro e y2 ⟨a2, c2, he, g2, r2⟩; have D2 : Ext W5 y2 := D1.trans g2; rw [HNS.out] at he r2; subst he; have HR2 := Lib.hid (fun w1 (he : Ext y2 w1) => (r2.ext he).weak (by omega) (V' := Any) (fun _ _ h => h.elim)); clear r2; clear g2)
      | (go_at_call 30; (with_reducible refine (HAl.out _ _ (HIs.out _ (X5.trans D2))).mono ?_); rintro e y3 ⟨a3, c3, he, g3, r3⟩; have D3 : Ext W5 y3 := D2.trans g3; rw [HNS.out] at he r3; subst he; have HR3 := Lib.hid (And.intro (HR2.out _ g3) (r3.weak (by omega) (V' := Any) (fun _ _ h => h.elim))); clear r3; clear g3)
      | (go_at_call 29; (with_reducible refine (HSR.out _ _ _ HR3.out.1 HR3.out.2).mono ?_); rintro e y4 ⟨rfl, g4⟩; have D4 : Ext W5 y4 := D3.trans g4; clear g4)
      | fail)
  go_wp2_with fail
  go_ret
  exact ⟨rfl, X5.trans D4⟩
set_option maxRecDepth 100000 in
set_option maxHeartbeats 16000000 in
theorem foreign_chk (s : SSt) (m : Msg) (v u : Value) (w : World) (hv : RF Any 6 valE w v s.vals) (hu : RF Any 6 valE w u m.vals) (hlo : -9223372036854775808 ≤ s.lost ∧ s.lost ≤ 9223372036854775807) (hl : largeB s.vals = false) (hl2 : largeB m.vals = false) (hfor : chkM m ≠ 0 ∨ m.pub ≠ s.pub ∨ m.rev ≠ s.rev) (hp : m.pub = s.pub) (hr : m.rev = s.rev) (hc : chkM m ≠ 0) : Calls Try.prog 7 #[subA s v, msgA m u] w fun e w' => e = .returned (.bool true) ∧ Ext w w' := by
  have HK := Lib.hid (fun w1 => known14_any w1)
  have HLs := Lib.hid (fun w1 (he : Ext w w1) => large11_any s.vals v w1 (hv.ext he))
  have HLm := Lib.hid (fun w1 (he : Ext w w1) => large11_any m.vals u w1 (hu.ext he))
  obtain ⟨ja, jc, rfl, hj1, hj2⟩ := hv.form
  obtain ⟨ka, kc, rfl, hk1, hk2⟩ := hu.form
  have HIs := Lib.hid (fun w1 (he : Ext w w1) => hv.ext he)
  have HTK := Lib.hid (fun (h : s.vals.length ≤ 1000000000) w1 (he : Ext w w1) => take_all s m _ _ w1 (hv.ext he) (hu.ext he) h hlo)
  have HTO := Lib.hid (fun (h : m.vals.length ≤ 1000000) w1 (he : Ext w w1) => to12_any m _ w1 (hu.ext he) h)
  have HCR := Lib.hid (fun v w1 h => checkMR_any m v w1 h)
  have HAL := Lib.hid (fun (hl : s.vals.length ≤ 1000000) v w1 (h : RF Any 6 valE w1 v s.vals) => all11_any s.vals v w1 h hl)
  have HSR := Lib.hid (fun va vb w1 h h' => sameVR_any s.vals s.vals va vb w1 h h')
  simp only [decide_true] at HSR
  have HSS := Lib.hid (fun v v' w1 h1 h2 => sameSub_eq s v v' w1 h1 h2)
  clear hv hu
  have hle1 := large_lenF hl
  have hle2 := large_lenF hl2
  rw [hl] at HLs
  rw [hl2] at HLm
  have HTk := Lib.hid (HTK.out (by omega))
  have HTo := Lib.hid (HTO.out (by omega))
  have HAl := Lib.hid (HAL.out (by omega))
  clear hl hl2 HTK HTO HAL hj2 hk2 hlo
  rw [takeS_for s m hfor] at HTk
  clear hfor
  generalize chkM m = cm at *
  obtain ⟨s1, s2, s3, s4, s5, s6, s7, s8, vs⟩ := s
  obtain ⟨m1, m2, m3, m4, m5, m6, m7, m8, m9, vm⟩ := m
  simp only at *
  generalize hn : vs.length = ns at *
  have HNS := Lib.hid hn
  generalize hnm : vm.length = nm at *
  have HNM := Lib.hid hnm
  clear hnm hn
  have hq0 : (m1 != s1) = false := by simpa using hp
  have hq1 : (m9 != s2) = false := by simpa using hr
  clear hp hr
  have hq : (cm != 0) = true := by simpa using hc
  clear hc
  go_enter Try.func7, Try.ntmps7
  go_wp2_with fail
  have B0 := Lib.hid ((Bk.new w #[.int .i64 s1, .int .i64 s2, .bool s3, .int .i64 s4, .int .i64 s5, .int .i64 s6, .int .i64 s7, .bool s8, .slice ja ns jc] 50 w.heap.size rfl).alloc (.cells #[.int .i64 m1, .int .i64 m2, .int .i64 m3, .int .i64 m4, .int .i64 m5, .int .i64 m6, .int .i64 m7, .bool m8, .int .i64 m9, .slice ka nm kc] 39))
  have B1 := Lib.hid (Bk.new (w.alloc (.cells #[.int .i64 s1, .int .i64 s2, .bool s3, .int .i64 s4, .int .i64 s5, .int .i64 s6, .int .i64 s7, .bool s8, .slice ja ns jc] 50)) #[.int .i64 m1, .int .i64 m2, .int .i64 m3, .int .i64 m4, .int .i64 m5, .int .i64 m6, .int .i64 m7, .bool m8, .int .i64 m9, .slice ka nm kc] 39 (w.heap.size + 1) (by simp))
  have X0 : Ext w ((w.alloc (.cells #[.int .i64 s1, .int .i64 s2, .bool s3, .int .i64 s4, .int .i64 s5, .int .i64 s6, .int .i64 s7, .bool s8, .slice ja ns jc] 50)).alloc (.cells #[.int .i64 m1, .int .i64 m2, .int .i64 m3, .int .i64 m4, .int .i64 m5, .int .i64 m6, .int .i64 m7, .bool m8, .int .i64 m9, .slice ka nm kc] 39)) := ((Ext.refl w).alloc _).alloc _
  generalize (w.alloc (.cells #[.int .i64 s1, .int .i64 s2, .bool s3, .int .i64 s4, .int .i64 s5, .int .i64 s6, .int .i64 s7, .bool s8, .slice ja ns jc] 50)).alloc (.cells #[.int .i64 m1, .int .i64 m2, .int .i64 m3, .int .i64 m4, .int .i64 m5, .int .i64 m6, .int .i64 m7, .bool m8, .int .i64 m9, .slice ka nm kc] 39) = W0 at *
  refine (HK.out _).mono ?_
  rintro e w1 ⟨rfl, x1⟩
  have B01 := Lib.hid (B0.out.ext x1)
  have B11 := Lib.hid (B1.out.ext x1)
  have X1 : Ext w w1 := X0.trans x1
  have q0 : ∀ j, w1.cell? ⟨w.heap.size, j, none⟩ = (#[.int .i64 s1, .int .i64 s2, .bool s3, .int .i64 s4, .int .i64 s5, .int .i64 s6, .int .i64 s7, .bool s8, .slice ja ns jc] : Array Value)[j]? := B01.out.cell
  have q1 : ∀ j, w1.cell? ⟨w.heap.size + 1, j, none⟩ = (#[.int .i64 m1, .int .i64 m2, .int .i64 m3, .int .i64 m4, .int .i64 m5, .int .i64 m6, .int .i64 m7, .bool m8, .int .i64 m9, .slice ka nm kc] : Array Value)[j]? := B11.out.cell
  clear x1 X0 B0 B1
  go_wp2_with fail
  refine (HLs.out _ X1).mono ?_
  rintro e w1' ⟨rfl, rfl⟩
  go_wp2_with fail
  refine (HLm.out _ X1).mono ?_
  rintro e w1' ⟨rfl, rfl⟩
  go_wp2_with fail
  refine (HTk.out _ X1).mono ?_
  rintro e w4 ⟨a4, c4, he, x4, r4⟩
  simp only [HNS.out] at he r4
  subst he
  clear q0 q1
  go_upto_region 6 with fail
  have B5 := Lib.hid ((B01.out.ext x4).alloc (.cells #[.int .i64 s1, .int .i64 s2, .bool s3, .int .i64 s4, .int .i64 s5, .int .i64 s6, .int .i64 s7, .bool s8, .slice a4 ns c4] 50))
  have M5 := Lib.hid ((B11.out.ext x4).alloc (.cells #[.int .i64 s1, .int .i64 s2, .bool s3, .int .i64 s4, .int .i64 s5, .int .i64 s6, .int .i64 s7, .bool s8, .slice a4 ns c4] 50))
  have T5 := Lib.hid (Bk.new w4 #[.int .i64 s1, .int .i64 s2, .bool s3, .int .i64 s4, .int .i64 s5, .int .i64 s6, .int .i64 s7, .bool s8, .slice a4 ns c4] 50 w4.heap.size rfl)
  have RT5 := Lib.hid ((r4.ext ((Ext.refl w4).alloc (.cells #[.int .i64 s1, .int .i64 s2, .bool s3, .int .i64 s4, .int .i64 s5, .int .i64 s6, .int .i64 s7, .bool s8, .slice a4 ns c4] 50))).weak (by omega) (V' := Any) (fun _ _ h => h.elim))
  have X5 : Ext w (w4.alloc (.cells #[.int .i64 s1, .int .i64 s2, .bool s3, .int .i64 s4, .int .i64 s5, .int .i64 s6, .int .i64 s7, .bool s8, .slice a4 ns c4] 50)) := (X1.trans x4).alloc _
  clear r4 x4 B01 B11
  generalize w4.alloc (.cells #[.int .i64 s1, .int .i64 s2, .bool s3, .int .i64 s4, .int .i64 s5, .int .i64 s6, .int .i64 s7, .bool s8, .slice a4 ns c4] 50) = W5 at *
  generalize w4.heap.size = tb at *
  have q0 : ∀ j, W5.cell? ⟨w.heap.size, j, none⟩ = (#[.int .i64 s1, .int .i64 s2, .bool s3, .int .i64 s4, .int .i64 s5, .int .i64 s6, .int .i64 s7, .bool s8, .slice ja ns jc] : Array Value)[j]? := B5.out.cell
  have q1 : ∀ j, W5.cell? ⟨w.heap.size + 1, j, none⟩ = (#[.int .i64 m1, .int .i64 m2, .int .i64 m3, .int .i64 m4, .int .i64 m5, .int .i64 m6, .int .i64 m7, .bool m8, .int .i64 m9, .slice ka nm kc] : Array Value)[j]? := M5.out.cell
  have qt : ∀ j, W5.cell? ⟨tb, j, none⟩ = (#[.int .i64 s1, .int .i64 s2, .bool s3, .int .i64 s4, .int .i64 s5, .int .i64 s6, .int .i64 s7, .bool s8, .slice a4 ns c4] : Array Value)[j]? := T5.out.cell
  go_wp2_with fail
  refine (HTo.out _ X5).mono ?_
  rintro e w6 ⟨a6, c6, he, x6, r6⟩
  rw [HNM.out] at he r6
  subst he
  have R6 := Lib.hid (r6.weak (by omega) (V' := Any) (fun _ _ h => h.elim))
  clear r6 q0 q1 qt
  go_wp2_with fail
  refine (HCR.out _ _ R6.out).mono ?_
  rintro e w7 ⟨rfl, x7⟩
  have B8 := Lib.hid ((B5.out.ext x6).ext x7)
  have T8 := Lib.hid ((T5.out.ext x6).ext x7)
  have RT8 := Lib.hid (RT5.out.ext (x6.trans x7))
  have X8 := (X5.trans x6).trans x7
  clear x6 x7 R6 B5 T5 RT5 M5
  clear X5
  obtain ⟨W5, hW5⟩ : ∃ W5, W5 = w7 := ⟨_, rfl⟩
  subst hW5
  have X5 := X8
  have B5 := B8
  have T5 := T8
  have RT5 := RT8
  clear X8 B8 T8 RT8
  go_upto_region 9 with fail
  have HT5 := Lib.hid (fun w1 (he : Ext W5 w1) => RT5.out.ext he)
  have p0 : (∀ j, W5.cell? ⟨w.heap.size, j, none⟩ = (#[.int .i64 s1, .int .i64 s2, .bool s3, .int .i64 s4, .int .i64 s5, .int .i64 s6, .int .i64 s7, .bool s8, .slice ja ns jc] : Array Value)[j]?) ∧ (∀ j, W5.cell? ⟨tb, j, none⟩ = (#[.int .i64 s1, .int .i64 s2, .bool s3, .int .i64 s4, .int .i64 s5, .int .i64 s6, .int .i64 s7, .bool s8, .slice a4 ns c4] : Array Value)[j]?) := ⟨B5.out.cell, T5.out.cell⟩
  have HBC : Hid (∀ w', Ext W5 w' → (∀ j, w'.cell? ⟨w.heap.size, j, none⟩ = (#[.int .i64 s1, .int .i64 s2, .bool s3, .int .i64 s4, .int .i64 s5, .int .i64 s6, .int .i64 s7, .bool s8, .slice ja ns jc] : Array Value)[j]?) ∧ (∀ j, w'.cell? ⟨tb, j, none⟩ = (#[.int .i64 s1, .int .i64 s2, .bool s3, .int .i64 s4, .int .i64 s5, .int .i64 s6, .int .i64 s7, .bool s8, .slice a4 ns c4] : Array Value)[j]?)) := fun w' he => ⟨(B5.out.ext he).cell, (T5.out.ext he).cell⟩
  have P0 := Lib.hid p0
  clear p0
  go_region_held3 (fun w' => (∀ j, w'.cell? ⟨w.heap.size, j, none⟩ = (#[.int .i64 s1, .int .i64 s2, .bool s3, .int .i64 s4, .int .i64 s5, .int .i64 s6, .int .i64 s7, .bool s8, .slice ja ns jc] : Array Value)[j]?) ∧ (∀ j, w'.cell? ⟨tb, j, none⟩ = (#[.int .i64 s1, .int .i64 s2, .bool s3, .int .i64 s4, .int .i64 s5, .int .i64 s6, .int .i64 s7, .bool s8, .slice a4 ns c4] : Array Value)[j]?))
    (first | (exact HBC.out _ (by first | (with_reducible exact (Ext.refl W5).drew) | (with_reducible exact D1) | (with_reducible exact D2) | (with_reducible exact D3) | (with_reducible exact D4) | fail)) | fail)
    (first
      | (go_at_call 28; (with_reducible refine (HSS.out _ _ _ (HIs.out _ (X5.trans (Ext.refl W5).drew)) (HT5.out _ (Ext.refl W5).drew)).mono ?_); rintro e y1 ⟨rfl, g1⟩; have D1 : Ext W5 y1 := (Ext.refl W5).drew.trans g1; clear g1)
      | (go_at_call 30; (with_reducible refine (HAl.out _ _ (HT5.out _ D1)).mono ?_); rintro e y2 ⟨a2, c2, he, g2, r2⟩; have D2 : Ext W5 y2 := D1.trans g2; rw [HNS.out] at he r2; subst he; have HR2 := Lib.hid (fun w1 (he : Ext y2 w1) => (r2.ext he).weak (by omega) (V' := Any) (fun _ _ h => h.elim)); clear r2; clear g2)
      | (go_at_call 30; (with_reducible refine (HAl.out _ _ (HIs.out _ (X5.trans D2))).mono ?_); rintro e y3 ⟨a3, c3, he, g3, r3⟩; have D3 : Ext W5 y3 := D2.trans g3; rw [HNS.out] at he r3; subst he; have HR3 := Lib.hid (And.intro (HR2.out _ g3) (r3.weak (by omega) (V' := Any) (fun _ _ h => h.elim))); clear r3; clear g3)
      | (go_at_call 29; (with_reducible refine (HSR.out _ _ _ HR3.out.1 HR3.out.2).mono ?_); rintro e y4 ⟨rfl, g4⟩; have D4 : Ext W5 y4 := D3.trans g4; clear g4)
      | fail)
  go_wp2_with fail
  go_ret
  exact ⟨rfl, X5.trans D4⟩
set_option maxRecDepth 100000 in
set_option maxHeartbeats 16000000 in
theorem foreign_not (s : SSt) (m : Msg) (v u : Value) (w : World) (hv : RF Any 6 valE w v s.vals) (hu : RF Any 6 valE w u m.vals) (hlo : -9223372036854775808 ≤ s.lost ∧ s.lost ≤ 9223372036854775807) (hl : largeB s.vals = false) (hl2 : largeB m.vals = false) (hp : m.pub = s.pub) (hr : m.rev = s.rev) (hc : chkM m = 0) : Calls Try.prog 7 #[subA s v, msgA m u] w fun e w' => e = .returned (.bool true) ∧ Ext w w' := by
  have HK := Lib.hid (fun w1 => known14_any w1)
  have HLs := Lib.hid (fun w1 (he : Ext w w1) => large11_any s.vals v w1 (hv.ext he))
  have HLm := Lib.hid (fun w1 (he : Ext w w1) => large11_any m.vals u w1 (hu.ext he))
  obtain ⟨ja, jc, rfl, hj1, hj2⟩ := hv.form
  obtain ⟨ka, kc, rfl, hk1, hk2⟩ := hu.form
  have HIs := Lib.hid (fun w1 (he : Ext w w1) => hv.ext he)
  have HTK := Lib.hid (fun (h : s.vals.length ≤ 1000000000) w1 (he : Ext w w1) => take_all s m _ _ w1 (hv.ext he) (hu.ext he) h hlo)
  have HTO := Lib.hid (fun (h : m.vals.length ≤ 1000000) w1 (he : Ext w w1) => to12_any m _ w1 (hu.ext he) h)
  have HCR := Lib.hid (fun v w1 h => checkMR_any m v w1 h)
  have HAL := Lib.hid (fun (hl : s.vals.length ≤ 1000000) v w1 (h : RF Any 6 valE w1 v s.vals) => all11_any s.vals v w1 h hl)
  have HSR := Lib.hid (fun va vb w1 h h' => sameVR_any s.vals s.vals va vb w1 h h')
  simp only [decide_true] at HSR
  have HSS := Lib.hid (fun v v' w1 h1 h2 => sameSub_eq s v v' w1 h1 h2)
  clear hv hu
  have hle1 := large_lenF hl
  have hle2 := large_lenF hl2
  rw [hl] at HLs
  rw [hl2] at HLm
  have HTk := Lib.hid (HTK.out (by omega))
  have HTo := Lib.hid (HTO.out (by omega))
  have HAl := Lib.hid (HAL.out (by omega))
  clear hl hl2 HTK HTO HAL hj2 hk2 hlo
  have hkk := takeS_own s m hc hp hr
  obtain ⟨z, hz⟩ : ∃ z, takeS s m = z := ⟨_, rfl⟩
  rw [hz] at HTk hkk
  clear hz
  obtain ⟨⟨t1, t2, t3, t4, t5, t6, t7, t8, vt⟩, kk⟩ := z
  rw [hc] at HCR
  clear hc HAl HSR HSS
  obtain ⟨s1, s2, s3, s4, s5, s6, s7, s8, vs⟩ := s
  obtain ⟨m1, m2, m3, m4, m5, m6, m7, m8, m9, vm⟩ := m
  simp only at *
  generalize hn : vs.length = ns at *
  have HNS := Lib.hid hn
  generalize hnm : vm.length = nm at *
  have HNM := Lib.hid hnm
  clear hnm hn
  generalize hnt : vt.length = nt at *
  have HNT := Lib.hid hnt
  clear hnt
  have hq0 : (m1 != s1) = false := by simpa using hp
  have hq1 : (m9 != s2) = false := by simpa using hr
  clear hp hr
  have hq : (kk != 0) = true := by simpa using hkk
  clear hkk
  go_enter Try.func7, Try.ntmps7
  go_wp2_with fail
  have B0 := Lib.hid ((Bk.new w #[.int .i64 s1, .int .i64 s2, .bool s3, .int .i64 s4, .int .i64 s5, .int .i64 s6, .int .i64 s7, .bool s8, .slice ja ns jc] 50 w.heap.size rfl).alloc (.cells #[.int .i64 m1, .int .i64 m2, .int .i64 m3, .int .i64 m4, .int .i64 m5, .int .i64 m6, .int .i64 m7, .bool m8, .int .i64 m9, .slice ka nm kc] 39))
  have B1 := Lib.hid (Bk.new (w.alloc (.cells #[.int .i64 s1, .int .i64 s2, .bool s3, .int .i64 s4, .int .i64 s5, .int .i64 s6, .int .i64 s7, .bool s8, .slice ja ns jc] 50)) #[.int .i64 m1, .int .i64 m2, .int .i64 m3, .int .i64 m4, .int .i64 m5, .int .i64 m6, .int .i64 m7, .bool m8, .int .i64 m9, .slice ka nm kc] 39 (w.heap.size + 1) (by simp))
  have X0 : Ext w ((w.alloc (.cells #[.int .i64 s1, .int .i64 s2, .bool s3, .int .i64 s4, .int .i64 s5, .int .i64 s6, .int .i64 s7, .bool s8, .slice ja ns jc] 50)).alloc (.cells #[.int .i64 m1, .int .i64 m2, .int .i64 m3, .int .i64 m4, .int .i64 m5, .int .i64 m6, .int .i64 m7, .bool m8, .int .i64 m9, .slice ka nm kc] 39)) := ((Ext.refl w).alloc _).alloc _
  generalize (w.alloc (.cells #[.int .i64 s1, .int .i64 s2, .bool s3, .int .i64 s4, .int .i64 s5, .int .i64 s6, .int .i64 s7, .bool s8, .slice ja ns jc] 50)).alloc (.cells #[.int .i64 m1, .int .i64 m2, .int .i64 m3, .int .i64 m4, .int .i64 m5, .int .i64 m6, .int .i64 m7, .bool m8, .int .i64 m9, .slice ka nm kc] 39) = W0 at *
  refine (HK.out _).mono ?_
  rintro e w1 ⟨rfl, x1⟩
  have B01 := Lib.hid (B0.out.ext x1)
  have B11 := Lib.hid (B1.out.ext x1)
  have X1 : Ext w w1 := X0.trans x1
  have q0 : ∀ j, w1.cell? ⟨w.heap.size, j, none⟩ = (#[.int .i64 s1, .int .i64 s2, .bool s3, .int .i64 s4, .int .i64 s5, .int .i64 s6, .int .i64 s7, .bool s8, .slice ja ns jc] : Array Value)[j]? := B01.out.cell
  have q1 : ∀ j, w1.cell? ⟨w.heap.size + 1, j, none⟩ = (#[.int .i64 m1, .int .i64 m2, .int .i64 m3, .int .i64 m4, .int .i64 m5, .int .i64 m6, .int .i64 m7, .bool m8, .int .i64 m9, .slice ka nm kc] : Array Value)[j]? := B11.out.cell
  clear x1 X0 B0 B1
  go_wp2_with fail
  refine (HLs.out _ X1).mono ?_
  rintro e w1' ⟨rfl, rfl⟩
  go_wp2_with fail
  refine (HLm.out _ X1).mono ?_
  rintro e w1' ⟨rfl, rfl⟩
  go_wp2_with fail
  refine (HTk.out _ X1).mono ?_
  rintro e w4 ⟨a4, c4, he, x4, r4⟩
  simp only [HNT.out] at he r4
  subst he
  clear q0 q1
  go_upto_region 6 with fail
  have B5 := Lib.hid ((B01.out.ext x4).alloc (.cells #[.int .i64 t1, .int .i64 t2, .bool t3, .int .i64 t4, .int .i64 t5, .int .i64 t6, .int .i64 t7, .bool t8, .slice a4 nt c4] 50))
  have M5 := Lib.hid ((B11.out.ext x4).alloc (.cells #[.int .i64 t1, .int .i64 t2, .bool t3, .int .i64 t4, .int .i64 t5, .int .i64 t6, .int .i64 t7, .bool t8, .slice a4 nt c4] 50))
  have T5 := Lib.hid (Bk.new w4 #[.int .i64 t1, .int .i64 t2, .bool t3, .int .i64 t4, .int .i64 t5, .int .i64 t6, .int .i64 t7, .bool t8, .slice a4 nt c4] 50 w4.heap.size rfl)
  have RT5 := Lib.hid ((r4.ext ((Ext.refl w4).alloc (.cells #[.int .i64 t1, .int .i64 t2, .bool t3, .int .i64 t4, .int .i64 t5, .int .i64 t6, .int .i64 t7, .bool t8, .slice a4 nt c4] 50))).weak (by omega) (V' := Any) (fun _ _ h => h.elim))
  have X5 : Ext w (w4.alloc (.cells #[.int .i64 t1, .int .i64 t2, .bool t3, .int .i64 t4, .int .i64 t5, .int .i64 t6, .int .i64 t7, .bool t8, .slice a4 nt c4] 50)) := (X1.trans x4).alloc _
  clear r4 x4 B01 B11
  generalize w4.alloc (.cells #[.int .i64 t1, .int .i64 t2, .bool t3, .int .i64 t4, .int .i64 t5, .int .i64 t6, .int .i64 t7, .bool t8, .slice a4 nt c4] 50) = W5 at *
  generalize w4.heap.size = tb at *
  have q0 : ∀ j, W5.cell? ⟨w.heap.size, j, none⟩ = (#[.int .i64 s1, .int .i64 s2, .bool s3, .int .i64 s4, .int .i64 s5, .int .i64 s6, .int .i64 s7, .bool s8, .slice ja ns jc] : Array Value)[j]? := B5.out.cell
  have q1 : ∀ j, W5.cell? ⟨w.heap.size + 1, j, none⟩ = (#[.int .i64 m1, .int .i64 m2, .int .i64 m3, .int .i64 m4, .int .i64 m5, .int .i64 m6, .int .i64 m7, .bool m8, .int .i64 m9, .slice ka nm kc] : Array Value)[j]? := M5.out.cell
  have qt : ∀ j, W5.cell? ⟨tb, j, none⟩ = (#[.int .i64 t1, .int .i64 t2, .bool t3, .int .i64 t4, .int .i64 t5, .int .i64 t6, .int .i64 t7, .bool t8, .slice a4 nt c4] : Array Value)[j]? := T5.out.cell
  go_wp2_with fail
  refine (HTo.out _ X5).mono ?_
  rintro e w6 ⟨a6, c6, he, x6, r6⟩
  rw [HNM.out] at he r6
  subst he
  have R6 := Lib.hid (r6.weak (by omega) (V' := Any) (fun _ _ h => h.elim))
  clear r6 q0 q1 qt
  go_wp2_with fail
  refine (HCR.out _ _ R6.out).mono ?_
  rintro e w7 ⟨rfl, x7⟩
  have B8 := Lib.hid ((B5.out.ext x6).ext x7)
  have T8 := Lib.hid ((T5.out.ext x6).ext x7)
  have RT8 := Lib.hid (RT5.out.ext (x6.trans x7))
  have X8 := (X5.trans x6).trans x7
  clear x6 x7 R6 B5 T5 RT5 M5
  clear X5
  obtain ⟨W5, hW5⟩ : ∃ W5, W5 = w7 := ⟨_, rfl⟩
  subst hW5
  have X5 := X8
  have B5 := B8
  have T5 := T8
  have RT5 := RT8
  clear X8 B8 T8 RT8
  go_wp2_with fail
  go_ret
  exact ⟨rfl, X5⟩
theorem foreign_walk (s : SSt) (m : Msg) (v u : Value) (w : World) (hv : RF Any 6 valE w v s.vals) (hu : RF Any 6 valE w u m.vals) (hlo : -9223372036854775808 ≤ s.lost ∧ s.lost ≤ 9223372036854775807) : Calls Try.prog 7 #[subA s v, msgA m u] w fun e w' => e = .returned (.bool true) ∧ Ext w w' := by
  cases hl : largeB s.vals
  · cases hl2 : largeB m.vals
    · by_cases hp : m.pub = s.pub
      · by_cases hr : m.rev = s.rev
        · by_cases hc : chkM m = 0
          · exact foreign_not s m v u w hv hu hlo hl hl2 hp hr hc
          · exact foreign_chk s m v u w hv hu hlo hl hl2 (.inl hc) hp hr hc
        · exact foreign_rev s m v u w hv hu hlo hl hl2 (.inr (.inr hr)) hp hr
      · exact foreign_pub s m v u w hv hu hlo hl hl2 (.inr (.inl hp)) hp
    · exact foreign_l2 s m v u w hv hu hlo hl hl2
  · exact foreign_l1 s m v u w hv hu hlo hl
end Go.Proofs.Ytopmhaebjpmbfaa
