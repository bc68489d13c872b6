/- Step of a publisher whose values change: layer 13. -/
import Derived.Test.YtimnepfdpehdmaaPubB
namespace Go.Proofs.Ytimnepfdpehdmaa
open Go.RowKit
attribute [local go_sem ↓] Go.wp_at_zero Go.wp_at_succ

set_option maxRecDepth 100000 in
set_option maxHeartbeats 8000000 in
theorem step_change0 (s : PSt) (l : List Val) (t1 t2 t3 : Int) (v u : Value) (w : World) (hv : RF Any 6 valE w v s.vals) (hu : RF Any 6 valE w u l) (hl : s.vals.length ≤ 1000000000) (hl' : l.length ≤ 1000000000) (hm : Mod s) (hd : dueS s l = 1) (hst : s.started = false) :
    Calls Try.prog 8 #[pubA s v, u, .agg #[.int .i64 t1, .int .i64 t2, .int .i64 t3]] w (RetP w (sendS s ⟨s.pub, s.first, s.max, s.rev, true, 1, 0, 0, s.first, t1, t2, t3, l⟩)) := by
  have HD := Lib.hid (fun w1 (he : Ext w w1) => due_any s l v u w1 (hv.ext he) (hu.ext he) hm.since.1 hm.since.2)
  rw [hd] at HD
  have HCUR := Lib.hid (fun w1 v1 (h1 : RF Any 6 valE w1 v1 l) => current_any ⟨s.pub, s.first, s.max, s.rev, true, 1, 0, 0, s.first, t1, t2, t3, l⟩ v1 w1 h1 hl')
  have HC := Lib.hid (fun w1 (he : Ext w w1) => dupP_any s.vals v w1 (hv.ext he) hl)
  have HCU := Lib.hid (fun w1 (he : Ext w w1) => dupP_any l u w1 (hu.ext he) hl')
  have hs1 := hm.since.1
  have hs2 := hm.since.2
  have hs3 := hm.state.1
  have hs4 := hm.state.2
  have hs5 := hm.seq.1
  have hs6 := hm.seq.2
  obtain ⟨a, c, rfl, _, _⟩ := hv.form
  obtain ⟨a', c', rfl, _, _⟩ := hu.form
  clear hm hd hv hu hl hl'
  obtain ⟨s1, s2, s3, s4, st, s6, s7, s8, s9, s10, s11, s12, vs⟩ := s
  simp only at *
  subst hst
  have HCHK := Lib.hid (fun w1 v1 (h1 : RF Any 6 valE w1 v1 l) => checkM_any (curS ⟨s1, s2, s3, s4, true, 1, 0, 0, s2, t1, t2, t3, l⟩) v1 w1 h1)
  obtain ⟨z, hz⟩ : ∃ z, sendS ⟨s1, s2, s3, s4, false, s6, s7, s8, s9, s10, s11, s12, vs⟩ ⟨s1, s2, s3, s4, true, 1, 0, 0, s2, t1, t2, t3, l⟩ = z := ⟨_, rfl⟩
  rw [hz]
  unfold sendS at hz
  generalize hcm : curS ⟨s1, s2, s3, s4, true, 1, 0, 0, s2, t1, t2, t3, l⟩ = cm at *
  have hcv : cm.vals = l := by rw [← hcm]; rfl
  rw [← hcv] at HCHK
  have HCV := Lib.hid hcv
  clear hcv
  obtain ⟨m1, m2, m3, m4, m5, m6, m7, m8, m9, m10⟩ := cm
  simp only at HCHK HCV
  have HCM := Lib.hid hcm
  clear hcm
  generalize chkM ⟨m1, m2, m3, m4, m5, m6, m7, m8, m9, m10⟩ = ck at *
  have HZ := Lib.hid hz
  clear hz
  generalize hn : vs.length = n at *
  have HNN := Lib.hid hn
  generalize hnn : l.length = n' at *
  have HNL := Lib.hid hnn
  clear hn hnn
  go_enter Try.func8, Try.ntmps8
  go_wp2_with fail
  have P0 : PW w.heap.size ((((w.alloc (.cells #[.int .i64 s1, .int .i64 s2, .int .i64 s3, .int .i64 s4, .bool false, .int .i64 s6, .int .i64 s7, .int .i64 s8, .int .i64 s9, .int .i64 s10, .int .i64 s11, .int .i64 s12, .slice a n c] 29)).alloc (.cells #[.int .i64 t1, .int .i64 t2, .int .i64 t3] 26)).alloc (.cells #[.int .i64 0, .int .i64 0, .int .i64 0, .int .i64 0, .bool false, .int .i64 0, .int .i64 0, .int .i64 0, .int .i64 0, .int .i64 0, .int .i64 0, .int .i64 0, .slice none 0 0] 29)).alloc (.cells #[.int .i64 s1, .int .i64 s2, .int .i64 s3, .int .i64 s4, .bool false, .int .i64 s6, .int .i64 s7, .int .i64 s8, .int .i64 s9, .int .i64 s10, .int .i64 s11, .int .i64 s12, .slice a n c] 29)) #[.int .i64 s1, .int .i64 s2, .int .i64 s3, .int .i64 s4, .bool false, .int .i64 s6, .int .i64 s7, .int .i64 s8, .int .i64 s9, .int .i64 s10, .int .i64 s11, .int .i64 s12, .slice a n c] #[.int .i64 t1, .int .i64 t2, .int .i64 t3] #[.int .i64 0, .int .i64 0, .int .i64 0, .int .i64 0, .bool false, .int .i64 0, .int .i64 0, .int .i64 0, .int .i64 0, .int .i64 0, .int .i64 0, .int .i64 0, .slice none 0 0] #[.int .i64 s1, .int .i64 s2, .int .i64 s3, .int .i64 s4, .bool false, .int .i64 s6, .int .i64 s7, .int .i64 s8, .int .i64 s9, .int .i64 s10, .int .i64 s11, .int .i64 s12, .slice a n c] := ⟨(((Bk.new w _ _ _ rfl).alloc _).alloc _).alloc _, ((Bk.new _ _ _ _ (by simp)).alloc _).alloc _, (Bk.new _ _ _ _ (by simp)).alloc _, Bk.new _ _ _ _ (by simp)⟩
  have X0 : Ext w ((((w.alloc (.cells #[.int .i64 s1, .int .i64 s2, .int .i64 s3, .int .i64 s4, .bool false, .int .i64 s6, .int .i64 s7, .int .i64 s8, .int .i64 s9, .int .i64 s10, .int .i64 s11, .int .i64 s12, .slice a n c] 29)).alloc (.cells #[.int .i64 t1, .int .i64 t2, .int .i64 t3] 26)).alloc (.cells #[.int .i64 0, .int .i64 0, .int .i64 0, .int .i64 0, .bool false, .int .i64 0, .int .i64 0, .int .i64 0, .int .i64 0, .int .i64 0, .int .i64 0, .int .i64 0, .slice none 0 0] 29)).alloc (.cells #[.int .i64 s1, .int .i64 s2, .int .i64 s3, .int .i64 s4, .bool false, .int .i64 s6, .int .i64 s7, .int .i64 s8, .int .i64 s9, .int .i64 s10, .int .i64 s11, .int .i64 s12, .slice a n c] 29)) := ((((Ext.refl w).alloc _).alloc _).alloc _).alloc _
  refine (HC.out _ X0).mono ?_
  generalize ((((w.alloc (.cells #[.int .i64 s1, .int .i64 s2, .int .i64 s3, .int .i64 s4, .bool false, .int .i64 s6, .int .i64 s7, .int .i64 s8, .int .i64 s9, .int .i64 s10, .int .i64 s11, .int .i64 s12, .slice a n c] 29)).alloc (.cells #[.int .i64 t1, .int .i64 t2, .int .i64 t3] 26)).alloc (.cells #[.int .i64 0, .int .i64 0, .int .i64 0, .int .i64 0, .bool false, .int .i64 0, .int .i64 0, .int .i64 0, .int .i64 0, .int .i64 0, .int .i64 0, .int .i64 0, .slice none 0 0] 29)).alloc (.cells #[.int .i64 s1, .int .i64 s2, .int .i64 s3, .int .i64 s4, .bool false, .int .i64 s6, .int .i64 s7, .int .i64 s8, .int .i64 s9, .int .i64 s10, .int .i64 s11, .int .i64 s12, .slice a n c] 29)) = W at *
  rintro e w1 ⟨a1, c1, he, x1, r1⟩
  rw [HNN.out] at he r1
  subst he
  have P1 := P0.ext x1
  have X1 := X0.trans x1
  have R1 := Lib.hid r1
  have HL3 := Lib.hid P0.b3.lt
  clear P0 r1
  have q0 := P1.b0.cell
  have q3 := P1.b3.cell
  have f3 := P1.b3.frozen
  have HP1 := Lib.hid P1
  have l3 := P1.b3.lt
  have lW := x1.size
  clear P1
  go_wp2_with fail
  have X2 := X1.setCell (p := ⟨w.heap.size + 1 + 1 + 1, 12, none⟩) (by simp; omega) (.slice a1 n c1)
  refine (HD.out _ X2).mono ?_
  rintro e w2 ⟨rfl, x2⟩
  have P2 := (HP1.out.set 12 (.slice a1 n c1)).ext x2
  have R2 := Lib.hid ((R1.out.agree (agree_setCell (p := ⟨w.heap.size + 1 + 1 + 1, 12, none⟩) (show Old W _ from HL3.out) (.slice a1 n c1))).ext x2)
  replace X2 := X2.trans x2
  have HX2 := Lib.hid X2
  have HX0 := Lib.hid X0
  clear q0 q3 f3 x2 X2 X1 x1 X0
  simp only [List.setIfInBounds_toArray, List.set_cons_succ, List.set_cons_zero] at P2
  have HP2 := Lib.hid P2
  have q0 := P2.b0.cell
  have q1 := P2.b1.cell
  have q2 := P2.b2.cell
  have f2 := P2.b2.frozen
  have q3 := P2.b3.cell
  have f3 := P2.b3.frozen
  have l3 := P2.b3.lt
  clear P2
  go_wp2_with fail
  refine (HCU.out _ (by repeat (first | (with_reducible exact HX2.out) | (with_reducible refine Ext.set3 ?_)))).mono ?_
  rintro e w3 ⟨a3, c3, he, x3, r3⟩
  rw [HNL.out] at he r3
  subst he
  have P3 := ((((((HP2.out.set 5 _).set 6 _).set 8 _).set 9 _).set 10 _).set 11 _).ext x3
  simp only [List.setIfInBounds_toArray, List.set_cons_succ, List.set_cons_zero] at P3
  have X3 : Ext w w3 := Ext.trans (by repeat (first | (with_reducible exact HX2.out) | (with_reducible refine Ext.set3 ?_))) x3
  have R3 := Lib.hid (r3.weak (by omega) (V' := Old w2) (fun g _ hg => show g < _ by have h2 : g < w2.heap.size := hg; simpa [Old] using h2))
  have HL2 := Lib.hid l3
  clear q0 q1 q2 f2 q3 f3 x3 r3 l3

  have l3 := P3.b3.lt
  have HP3 := Lib.hid P3
  have q3 := P3.b3.cell
  have f3 := P3.b3.frozen
  clear P3
  go_wp2_with fail
  have P4 := (((HP3.out.set 12 (.slice a3 n' c3)).set 4 (.bool true)).set 7 (.int .i64 0))
  have X4 : Ext w ((((w3.setCell ⟨w.heap.size + 1 + 1 + 1, 12, none⟩ (.slice a3 n' c3)).setCell ⟨w.heap.size + 1 + 1 + 1, 4, none⟩ (.bool true))).setCell ⟨w.heap.size + 1 + 1 + 1, 7, none⟩ (.int .i64 0)) := ((X3.setCell (by simp; omega) _).setCell (by simp; omega) _).setCell (by simp; omega) _
  have R4 := ((R3.out.agree (agree_setCell (p := ⟨w.heap.size + 1 + 1 + 1, 12, none⟩) (show Old w2 _ from HL2.out) (.slice a3 n' c3))).agree (agree_setCell (p := ⟨w.heap.size + 1 + 1 + 1, 4, none⟩) (show Old w2 _ from HL2.out) (.bool true))).agree (agree_setCell (p := ⟨w.heap.size + 1 + 1 + 1, 7, none⟩) (show Old w2 _ from HL2.out) (.int .i64 0))
  simp only [List.setIfInBounds_toArray, List.set_cons_succ, List.set_cons_zero] at P4
  refine (HCUR.out _ _ (R4.weak (by omega) (V' := Any) (fun _ _ h => h.elim))).mono ?_
  generalize ((((w3.setCell ⟨w.heap.size + 1 + 1 + 1, 12, none⟩ (.slice a3 n' c3)).setCell ⟨w.heap.size + 1 + 1 + 1, 4, none⟩ (.bool true))).setCell ⟨w.heap.size + 1 + 1 + 1, 7, none⟩ (.int .i64 0)) = w4 at *
  rintro e w5 ⟨a5, c5, he, x5, r5⟩
  simp only at he r5
  rw [HCV.out, HNL.out] at he r5
  subst he
  have P5 := P4.ext x5
  have X5 := X4.trans x5
  have R5 := Lib.hid (R4.ext x5)
  have HL4 := Lib.hid P4.b3.lt
  have HX4 := Lib.hid X4
  clear P4 R4 x5 X4
  have HR5 := Lib.hid r5
  clear r5
  have HP5 := Lib.hid P5
  have q3 := P5.b3.cell
  clear P5 q3 f3
  go_wp2_with fail
  have M6 := Bk.new w5 #[.int .i64 m1, .int .i64 m2, .int .i64 m3, .int .i64 m4, .int .i64 m5, .int .i64 m6, .int .i64 m7, .bool m8, .int .i64 m9, .slice a5 n' c5] 55 w5.heap.size rfl
  have X6 := X5.alloc (.cells #[.int .i64 m1, .int .i64 m2, .int .i64 m3, .int .i64 m4, .int .i64 m5, .int .i64 m6, .int .i64 m7, .bool m8, .int .i64 m9, .slice a5 n' c5] 55)
  have P6 := HP5.out.ext ((Ext.refl w5).alloc (.cells #[.int .i64 m1, .int .i64 m2, .int .i64 m3, .int .i64 m4, .int .i64 m5, .int .i64 m6, .int .i64 m7, .bool m8, .int .i64 m9, .slice a5 n' c5] 55))
  refine (HCHK.out _ _ (by rw [HCV.out]; exact (HR5.out.ext ((Ext.refl _).alloc _)).weak (by omega) (V' := Any) (fun _ _ h => h.elim))).mono ?_
  have HX56 := Lib.hid ((Ext.refl w5).alloc (.cells #[.int .i64 m1, .int .i64 m2, .int .i64 m3, .int .i64 m4, .int .i64 m5, .int .i64 m6, .int .i64 m7, .bool m8, .int .i64 m9, .slice a5 n' c5] 55))
  generalize w5.alloc (.cells #[.int .i64 m1, .int .i64 m2, .int .i64 m3, .int .i64 m4, .int .i64 m5, .int .i64 m6, .int .i64 m7, .bool m8, .int .i64 m9, .slice a5 n' c5] 55) = w6 at *
  rintro e w7 ⟨rfl, x7⟩
  have HP7 := Lib.hid (P6.ext x7)
  have HM7 := Lib.hid (M6.ext x7)
  have HX7 := Lib.hid (X6.trans x7)
  have lm := HP5.out.b3.lt
  have HX57 := Lib.hid (HX56.out.trans x7)
  clear P6 M6 X6 x7 X5
  have q0 := HP7.out.b0.cell
  have q2 := HP7.out.b2.cell
  have f2 := HP7.out.b2.frozen
  have q3 := HP7.out.b3.cell
  have f3 := HP7.out.b3.frozen
  have l3 := HP7.out.b3.lt
  have l2 := HP7.out.b2.lt
  have qm := HM7.out.cell
  have lM := HM7.out.lt
  by_cases hck : ck = 0
  · subst hck
    go_wp2_with fail
    go_region
    all_goals
      change Exit.then _ _ _ _ ((put w7 (w.heap.size + 1 + 1) 0 [.int .i64 s1, .int .i64 s2, .int .i64 s3, .int .i64 s4, .bool true, .int .i64 1, .int .i64 0, .int .i64 0, .int .i64 s2, .int .i64 t1, .int .i64 t2, .int .i64 t3, .slice a3 n' c3]).alloc (.cells #[.int .i64 m1, .int .i64 m2, .int .i64 m3, .int .i64 m4, .int .i64 m5, .int .i64 m6, .int .i64 m7, .bool m8, .int .i64 m9, .slice a5 n' c5] 55)).drew
      have P8 := HP7.out.res [.int .i64 s1, .int .i64 s2, .int .i64 s3, .int .i64 s4, .bool true, .int .i64 1, .int .i64 0, .int .i64 0, .int .i64 s2, .int .i64 t1, .int .i64 t2, .int .i64 t3, .slice a3 n' c3] rfl
      have X8 := put_ext (a := w) (B := w.heap.size + 1 + 1) (by omega) [.int .i64 s1, .int .i64 s2, .int .i64 s3, .int .i64 s4, .bool true, .int .i64 1, .int .i64 0, .int .i64 0, .int .i64 s2, .int .i64 t1, .int .i64 t2, .int .i64 t3, .slice a3 n' c3] 0 _ HX7.out
      have R8 := (((R5.out.ext HX57.out).agree (agree_put (V := Old w2) (B := w.heap.size + 1 + 1) (show w.heap.size + 1 + 1 < w2.heap.size by have := HL2.out; omega) [.int .i64 s1, .int .i64 s2, .int .i64 s3, .int .i64 s4, .bool true, .int .i64 1, .int .i64 0, .int .i64 0, .int .i64 s2, .int .i64 t1, .int .i64 t2, .int .i64 t3, .slice a3 n' c3] 0 w7)).weak (by omega) (V' := Old w) (fun g _ hg => HX2.out.lt hg))
      have M8 := (((HR5.out.ext HX57.out).agree (agree_put (V := Old w4) (B := w.heap.size + 1 + 1) (show w.heap.size + 1 + 1 < w4.heap.size by have := HL4.out; omega) [.int .i64 s1, .int .i64 s2, .int .i64 s3, .int .i64 s4, .bool true, .int .i64 1, .int .i64 0, .int .i64 0, .int .i64 s2, .int .i64 t1, .int .i64 t2, .int .i64 t3, .slice a3 n' c3] 0 w7)).weak (by omega) (V' := Old w) (fun g _ hg => HX4.out.lt hg))
      have hz8 := put_size (w.heap.size + 1 + 1) [.int .i64 s1, .int .i64 s2, .int .i64 s3, .int .i64 s4, .bool true, .int .i64 1, .int .i64 0, .int .i64 0, .int .i64 s2, .int .i64 t1, .int .i64 t2, .int .i64 t3, .slice a3 n' c3] 0 w7
      generalize put w7 (w.heap.size + 1 + 1) 0 [.int .i64 s1, .int .i64 s2, .int .i64 s3, .int .i64 s4, .bool true, .int .i64 1, .int .i64 0, .int .i64 0, .int .i64 s2, .int .i64 t1, .int .i64 t2, .int .i64 t3, .slice a3 n' c3] = w8 at *
      have hzz := HZ.out
      rw [if_pos (by trivial)] at hzz
      have HZ2 := Lib.hid hzz
      clear hzz
      have B9 := Lib.hid ((Bk.new w8 #[.int .i64 m1, .int .i64 m2, .int .i64 m3, .int .i64 m4, .int .i64 m5, .int .i64 m6, .int .i64 m7, .bool m8, .int .i64 m9, .slice a5 n' c5] 55 w7.heap.size hz8).drew)
      have HX9 := Lib.hid ((X8.alloc (.cells #[.int .i64 m1, .int .i64 m2, .int .i64 m3, .int .i64 m4, .int .i64 m5, .int .i64 m6, .int .i64 m7, .bool m8, .int .i64 m9, .slice a5 n' c5] 55)).drew)
      have HR9 := Lib.hid ((R8.ext ((Ext.refl w8).alloc (.cells #[.int .i64 m1, .int .i64 m2, .int .i64 m3, .int .i64 m4, .int .i64 m5, .int .i64 m6, .int .i64 m7, .bool m8, .int .i64 m9, .slice a5 n' c5] 55))).ext (Ext.refl _).drew)
      have HM9 := Lib.hid ((M8.ext ((Ext.refl w8).alloc (.cells #[.int .i64 m1, .int .i64 m2, .int .i64 m3, .int .i64 m4, .int .i64 m5, .int .i64 m6, .int .i64 m7, .bool m8, .int .i64 m9, .slice a5 n' c5] 55))).ext (Ext.refl _).drew)
      have c9 := ((P8.b2.alloc (.cells #[.int .i64 m1, .int .i64 m2, .int .i64 m3, .int .i64 m4, .int .i64 m5, .int .i64 m6, .int .i64 m7, .bool m8, .int .i64 m9, .slice a5 n' c5] 55)).drew).cell
      generalize (w8.alloc (.cells #[.int .i64 m1, .int .i64 m2, .int .i64 m3, .int .i64 m4, .int .i64 m5, .int .i64 m6, .int .i64 m7, .bool m8, .int .i64 m9, .slice a5 n' c5] 55)).drew = w9 at *
      have hr9 : w.heap.size ≤ w7.heap.size := HX7.out.size
      clear P8 X8 R8 M8 q0 q2 f2 q3 f3 qm
      go_wp2_with fail
      exact bodyPost_ret (v := .tuple #[.agg #[.int .i64 s1, .int .i64 s2, .int .i64 s3, .int .i64 s4, .bool true, .int .i64 1, .int .i64 0, .int .i64 0, .int .i64 s2, .int .i64 t1, .int .i64 t2, .int .i64 t3, .slice a3 n' c3], .slice (some ⟨w7.heap.size, 0, none⟩) 1 1]) (by simp [results, Try.results8, go_sem, c9]) rfl (HZ2.out ▸ RetP.one ⟨s1, s2, s3, s4, true, 1, 0, 0, s2, t1, t2, t3, l⟩ ⟨m1, m2, m3, m4, m5, m6, m7, m8, m9, m10⟩ a3 a5 c3 c5 n' w7.heap.size HNL.out (by rw [HCV.out]; exact HNL.out) HX9.out B9.out hr9 HR9.out (by rw [HCV.out]; exact HM9.out))
  · have hck1 : (ck != 0) = true := by simpa using hck
    have HCK := Lib.hid hck
    clear hck
    go_wp2_with fail
    have P8 := HP7.out.next [.int .i64 s1, .int .i64 s2, .int .i64 s3, .int .i64 s4, .bool false, .int .i64 s6, .int .i64 s7, .int .i64 s8, .int .i64 s9, .int .i64 s10, .int .i64 s11, .int .i64 s12, .slice a n c] rfl
    have X8 := put_ext (a := w) (B := w.heap.size + 1 + 1 + 1) (by omega) [.int .i64 s1, .int .i64 s2, .int .i64 s3, .int .i64 s4, .bool false, .int .i64 s6, .int .i64 s7, .int .i64 s8, .int .i64 s9, .int .i64 s10, .int .i64 s11, .int .i64 s12, .slice a n c] 0 _ HX7.out
    refine (HC.out (put w7 (w.heap.size + 1 + 1 + 1) 0 [.int .i64 s1, .int .i64 s2, .int .i64 s3, .int .i64 s4, .bool false, .int .i64 s6, .int .i64 s7, .int .i64 s8, .int .i64 s9, .int .i64 s10, .int .i64 s11, .int .i64 s12, .slice a n c]) X8).mono ?_
    generalize put w7 (w.heap.size + 1 + 1 + 1) 0 [.int .i64 s1, .int .i64 s2, .int .i64 s3, .int .i64 s4, .bool false, .int .i64 s6, .int .i64 s7, .int .i64 s8, .int .i64 s9, .int .i64 s10, .int .i64 s11, .int .i64 s12, .slice a n c] = w8 at *
    rintro e w9 ⟨a9, c9, he, x9, r9⟩
    rw [HNN.out] at he r9
    subst he
    have HP9 := Lib.hid (P8.ext x9)
    have HX9 := Lib.hid (X8.trans x9)
    have HR9 := Lib.hid r9
    have HL8 := Lib.hid P8.b3.lt
    clear P8 x9 r9 q0 q2 f2 q3 f3 qm l2 l3
    have q3 := HP9.out.b3.cell
    have f3 := HP9.out.b3.frozen
    have q2 := HP9.out.b2.cell
    have f2 := HP9.out.b2.frozen
    go_wp2_with fail
    change bodyPost _ _ _ _ _ (put (w9.setCell ⟨w.heap.size + 1 + 1 + 1, 12, none⟩ (.slice a9 n c9)) (w.heap.size + 1 + 1) 0 [.int .i64 s1, .int .i64 s2, .int .i64 s3, .int .i64 s4, .bool false, .int .i64 s6, .int .i64 s7, .int .i64 s8, .int .i64 s9, .int .i64 s10, .int .i64 s11, .int .i64 s12, .slice a9 n c9])
    have P10 := (HP9.out.set 12 (.slice a9 n c9)).res [.int .i64 s1, .int .i64 s2, .int .i64 s3, .int .i64 s4, .bool false, .int .i64 s6, .int .i64 s7, .int .i64 s8, .int .i64 s9, .int .i64 s10, .int .i64 s11, .int .i64 s12, .slice a9 n c9] rfl
    have X10 := put_ext (a := w) (B := w.heap.size + 1 + 1) (by omega) [.int .i64 s1, .int .i64 s2, .int .i64 s3, .int .i64 s4, .bool false, .int .i64 s6, .int .i64 s7, .int .i64 s8, .int .i64 s9, .int .i64 s10, .int .i64 s11, .int .i64 s12, .slice a9 n c9] 0 _ (Ext.set3 (j := 12) (v := .slice a9 n c9) HX9.out)
    have R10 := ((HR9.out.agree (agree_setCell (p := ⟨w.heap.size + 1 + 1 + 1, 12, none⟩) (show Old w8 _ from HL8.out) (.slice a9 n c9))).agree (agree_put (V := Old w8) (B := w.heap.size + 1 + 1) (show w.heap.size + 1 + 1 < w8.heap.size by have := HL8.out; omega) [.int .i64 s1, .int .i64 s2, .int .i64 s3, .int .i64 s4, .bool false, .int .i64 s6, .int .i64 s7, .int .i64 s8, .int .i64 s9, .int .i64 s10, .int .i64 s11, .int .i64 s12, .slice a9 n c9] 0 _)).weak (by omega) (V' := Old w) (fun g _ hg => X8.lt hg)
    generalize put (w9.setCell ⟨w.heap.size + 1 + 1 + 1, 12, none⟩ (.slice a9 n c9)) (w.heap.size + 1 + 1) 0 [.int .i64 s1, .int .i64 s2, .int .i64 s3, .int .i64 s4, .bool false, .int .i64 s6, .int .i64 s7, .int .i64 s8, .int .i64 s9, .int .i64 s10, .int .i64 s11, .int .i64 s12, .slice a9 n c9] = w10 at *
    have c10 := P10.b2.cell
    have hzz := HZ.out
    rw [if_neg HCK.out] at hzz
    rw [← hzz]
    exact bodyPost_ret (v := .tuple #[.agg #[.int .i64 s1, .int .i64 s2, .int .i64 s3, .int .i64 s4, .bool false, .int .i64 s6, .int .i64 s7, .int .i64 s8, .int .i64 s9, .int .i64 s10, .int .i64 s11, .int .i64 s12, .slice a9 n c9], .slice none 0 0]) (by simp [results, Try.results8, go_sem, c10]) rfl (RetP.none ⟨s1, s2, s3, s4, false, s6, s7, s8, s9, s10, s11, s12, vs⟩ a9 c9 n HNN.out X10 R10)
end Go.Proofs.Ytimnepfdpehdmaa
