/- The ways of Take, the rest: layer 14. -/
import Derived.Test.YtimnepfdpehdmaaTJ
import Derived.Laws.ByValue
namespace Go.Proofs.Ytimnepfdpehdmaa
open Go.RowKit
attribute [local go_sem ↓] Go.wp_at_zero Go.wp_at_succ
set_option maxRecDepth 100000 in
set_option maxHeartbeats 4000000 in
theorem take_old1 (s : SSt) (m : Msg) (v u : Value) (w : World) (hv : RF Any 6 valE w v s.vals) (hu : RF Any 6 valE w u m.vals) (hl : s.vals.length ≤ 1000000000) (hck : chkM m = 0) (hpub : m.pub = s.pub) (hrev : m.rev = s.rev) (hkn : s.known = true) (hlf : ¬ s.left < 1) (hst : m.state = s.state) (hnb : newB s.seq m.seq = false) :
    Calls Try.prog 28 #[subA s v, msgA m u] w (RetT w (s, 4)) := by
  have HCK := Lib.hid (fun w1 (he : Ext w w1) => checkM_any m u w1 (hu.ext he))
  rw [hck] at HCK
  clear hck
  have HD := Lib.hid (fun w1 (he : Ext w w1) => dupSub_any s v w1 (hv.ext he) hl)
  have HNW := Lib.hid (fun w1 => newer_any s.seq m.seq w1)
  obtain ⟨a, c, rfl, _, _⟩ := hv.form
  obtain ⟨am, cm, rfl, _, _⟩ := hu.form
  have HF : Hid (∀ w' a' c', Ext w w' → RF (Old w) 6 valE w' (.slice a' s.vals.length c') s.vals → RetT w (s, 4) (.returned (.tuple #[subA s (.slice a' s.vals.length c'), .int .i64 4])) w') := fun w' a' c' he hr => ⟨a', c', rfl, he, hr⟩
  generalize hss : RetT w (s, 4) = R at *
  clear hss hv hu hl
  obtain ⟨s1, s2, s3, s4, s5, s6, s7, s8, vs⟩ := s
  obtain ⟨m1, m2, m3, m4, m5, m6, m7, m8, m9, vm⟩ := m
  simp only at *
  have hp : (m1 != s1) = false := by simpa using hpub
  have hr : (m9 != s2) = false := by simpa using hrev
  clear hpub hrev
  subst hkn
  have hle : decide (s6 < 1) = false := by simpa using hlf
  clear hlf
  have hse : (m6 == s4) = true := by simpa using hst
  clear hst
  rw [hnb] at HNW
  clear hnb
  generalize dist s5 m7 = d at *
  generalize hn : vs.length = n at *
  have HNN := Lib.hid hn
  generalize hnm : vm.length = nm at *
  have HNM := Lib.hid hnm
  clear hn hnm
  go_enter Try.func28, Try.ntmps28
  go_wp2_with fail
  go_step3
  go_wp2_with fail
  have X0 : Ext w (((w.alloc (.cells #[.int .i64 s1, .int .i64 s2, .bool true, .int .i64 s4, .int .i64 s5, .int .i64 s6, .int .i64 s7, .bool s8, .slice a n c] 34)).alloc (.cells #[.int .i64 m1, .int .i64 m2, .int .i64 m3, .int .i64 m4, .int .i64 m5, .int .i64 m6, .int .i64 m7, .bool m8, .int .i64 m9, .slice am nm cm] 55)).alloc (.cells #[.int .i64 0, .int .i64 0, .bool false, .int .i64 0, .int .i64 0, .int .i64 0, .int .i64 0, .bool false, .slice none 0 0] 34)) := (((Ext.refl w).alloc _).alloc _).alloc _
  have BS := Lib.hid (((Bk.new w #[.int .i64 s1, .int .i64 s2, .bool true, .int .i64 s4, .int .i64 s5, .int .i64 s6, .int .i64 s7, .bool s8, .slice a n c] 34 w.heap.size rfl).alloc (.cells #[.int .i64 m1, .int .i64 m2, .int .i64 m3, .int .i64 m4, .int .i64 m5, .int .i64 m6, .int .i64 m7, .bool m8, .int .i64 m9, .slice am nm cm] 55)).alloc (.cells #[.int .i64 0, .int .i64 0, .bool false, .int .i64 0, .int .i64 0, .int .i64 0, .int .i64 0, .bool false, .slice none 0 0] 34))
  have BM := Lib.hid ((Bk.new (w.alloc (.cells #[.int .i64 s1, .int .i64 s2, .bool true, .int .i64 s4, .int .i64 s5, .int .i64 s6, .int .i64 s7, .bool s8, .slice a n c] 34)) #[.int .i64 m1, .int .i64 m2, .int .i64 m3, .int .i64 m4, .int .i64 m5, .int .i64 m6, .int .i64 m7, .bool m8, .int .i64 m9, .slice am nm cm] 55 (w.heap.size + 1) (by simp)).alloc (.cells #[.int .i64 0, .int .i64 0, .bool false, .int .i64 0, .int .i64 0, .int .i64 0, .int .i64 0, .bool false, .slice none 0 0] 34))
  have BR := Lib.hid (Bk.new ((w.alloc (.cells #[.int .i64 s1, .int .i64 s2, .bool true, .int .i64 s4, .int .i64 s5, .int .i64 s6, .int .i64 s7, .bool s8, .slice a n c] 34)).alloc (.cells #[.int .i64 m1, .int .i64 m2, .int .i64 m3, .int .i64 m4, .int .i64 m5, .int .i64 m6, .int .i64 m7, .bool m8, .int .i64 m9, .slice am nm cm] 55)) #[.int .i64 0, .int .i64 0, .bool false, .int .i64 0, .int .i64 0, .int .i64 0, .int .i64 0, .bool false, .slice none 0 0] 34 (w.heap.size + 1 + 1) (by simp))
  refine (HCK.out _ X0).mono ?_
  generalize ((w.alloc (.cells #[.int .i64 s1, .int .i64 s2, .bool true, .int .i64 s4, .int .i64 s5, .int .i64 s6, .int .i64 s7, .bool s8, .slice a n c] 34)).alloc (.cells #[.int .i64 m1, .int .i64 m2, .int .i64 m3, .int .i64 m4, .int .i64 m5, .int .i64 m6, .int .i64 m7, .bool m8, .int .i64 m9, .slice am nm cm] 55)).alloc (.cells #[.int .i64 0, .int .i64 0, .bool false, .int .i64 0, .int .i64 0, .int .i64 0, .int .i64 0, .bool false, .slice none 0 0] 34) = W at *
  rintro e w1 ⟨rfl, x1⟩
  have BS1 := Lib.hid (BS.out.ext x1)
  have BM1 := Lib.hid (BM.out.ext x1)
  have BR1 := Lib.hid (BR.out.ext x1)
  have X1 := X0.trans x1
  have qs := BS1.out.cell
  have qm := BM1.out.cell
  clear BS BM BR HCK
  go_wp2_with fail
  go_step3
  go_wp2_with fail
  refine (HNW.out _).mono ?_
  rintro e w2 ⟨rfl, rfl⟩
  go_wp2_with fail
  have XX := X1
  have BSX := BS1
  have BMX := BM1
  have BRX := BR1
  obtain ⟨wX, hwX⟩ : ∃ wX, wX = w1 := ⟨_, rfl⟩
  subst hwX
  refine (HD.out _ XX).mono ?_
  rintro e w3 ⟨a3, c3, he, x3, r3⟩
  simp only [HNN.out] at he r3
  subst he
  have BR3 := Lib.hid (BRX.out.ext x3)
  clear qs qm
  have q3 := BR3.out.cell
  have f3 := BR3.out.frozen
  go_wp2_with fail
  (try rw [Exit.noGoto_ret])
  change bodyPost _ _ _ _ _ (put w3 (w.heap.size + 1 + 1) 0 [.int .i64 s1, .int .i64 s2, .bool true, .int .i64 s4, .int .i64 s5, .int .i64 s6, .int .i64 s7, .bool s8, .slice a3 n c3])
  have C4 := put_all (vs := [.int .i64 s1, .int .i64 s2, .bool true, .int .i64 s4, .int .i64 s5, .int .i64 s6, .int .i64 s7, .bool s8, .slice a3 n c3]) BR3.out rfl
  have X4 := put_ext (a := w) (show w.heap.size ≤ w.heap.size + 1 + 1 by omega) [.int .i64 s1, .int .i64 s2, .bool true, .int .i64 s4, .int .i64 s5, .int .i64 s6, .int .i64 s7, .bool s8, .slice a3 n c3] 0 _ (XX.trans x3)
  have R4 := (r3.agree (agree_put (V := Old wX) (B := w.heap.size + 1 + 1) BRX.out.lt [.int .i64 s1, .int .i64 s2, .bool true, .int .i64 s4, .int .i64 s5, .int .i64 s6, .int .i64 s7, .bool s8, .slice a3 n c3] 0 w3)).weak (by omega) (V' := Old w) (fun g _ hg => XX.lt hg)
  generalize put w3 (w.heap.size + 1 + 1) 0 [.int .i64 s1, .int .i64 s2, .bool true, .int .i64 s4, .int .i64 s5, .int .i64 s6, .int .i64 s7, .bool s8, .slice a3 n c3] = w4 at *
  have c4 := C4.cell
  exact bodyPost_ret (v := .tuple #[.agg #[.int .i64 s1, .int .i64 s2, .bool true, .int .i64 s4, .int .i64 s5, .int .i64 s6, .int .i64 s7, .bool s8, .slice a3 n c3], .int .i64 4]) (by simp [results, Try.results28, go_sem, c4]) rfl (HF.out _ _ _ X4 R4)
set_option maxRecDepth 100000 in
set_option maxHeartbeats 4000000 in
theorem take_old2a (s : SSt) (m : Msg) (v u : Value) (w : World) (hv : RF Any 6 valE w v s.vals) (hu : RF Any 6 valE w u m.vals) (hl : s.vals.length ≤ 1000000000) (hck : chkM m = 0) (hpub : m.pub = s.pub) (hrev : m.rev = s.rev) (hkn : s.known = true) (hlf : ¬ s.left < 1) (hst : m.state = s.state) (hnb : newB s.seq m.seq = true) (hte : s.test = true) (htm : m.test = false) :
    Calls Try.prog 28 #[subA s v, msgA m u] w (RetT w (s, 4)) := by
  have HCK := Lib.hid (fun w1 (he : Ext w w1) => checkM_any m u w1 (hu.ext he))
  rw [hck] at HCK
  clear hck
  have HD := Lib.hid (fun w1 (he : Ext w w1) => dupSub_any s v w1 (hv.ext he) hl)
  have HNW := Lib.hid (fun w1 => newer_any s.seq m.seq w1)
  obtain ⟨a, c, rfl, _, _⟩ := hv.form
  obtain ⟨am, cm, rfl, _, _⟩ := hu.form
  have HF : Hid (∀ w' a' c', Ext w w' → RF (Old w) 6 valE w' (.slice a' s.vals.length c') s.vals → RetT w (s, 4) (.returned (.tuple #[subA s (.slice a' s.vals.length c'), .int .i64 4])) w') := fun w' a' c' he hr => ⟨a', c', rfl, he, hr⟩
  generalize hss : RetT w (s, 4) = R at *
  clear hss hv hu hl
  obtain ⟨s1, s2, s3, s4, s5, s6, s7, s8, vs⟩ := s
  obtain ⟨m1, m2, m3, m4, m5, m6, m7, m8, m9, vm⟩ := m
  simp only at *
  have hp : (m1 != s1) = false := by simpa using hpub
  have hr : (m9 != s2) = false := by simpa using hrev
  clear hpub hrev
  subst hkn
  have hle : decide (s6 < 1) = false := by simpa using hlf
  clear hlf
  have hse : (m6 == s4) = true := by simpa using hst
  clear hst
  rw [hnb] at HNW
  clear hnb
  generalize dist s5 m7 = d at *
  subst hte htm
  generalize hn : vs.length = n at *
  have HNN := Lib.hid hn
  generalize hnm : vm.length = nm at *
  have HNM := Lib.hid hnm
  clear hn hnm
  go_enter Try.func28, Try.ntmps28
  go_wp2_with fail
  go_step3
  go_wp2_with fail
  have X0 : Ext w (((w.alloc (.cells #[.int .i64 s1, .int .i64 s2, .bool true, .int .i64 s4, .int .i64 s5, .int .i64 s6, .int .i64 s7, .bool true, .slice a n c] 34)).alloc (.cells #[.int .i64 m1, .int .i64 m2, .int .i64 m3, .int .i64 m4, .int .i64 m5, .int .i64 m6, .int .i64 m7, .bool false, .int .i64 m9, .slice am nm cm] 55)).alloc (.cells #[.int .i64 0, .int .i64 0, .bool false, .int .i64 0, .int .i64 0, .int .i64 0, .int .i64 0, .bool false, .slice none 0 0] 34)) := (((Ext.refl w).alloc _).alloc _).alloc _
  have BS := Lib.hid (((Bk.new w #[.int .i64 s1, .int .i64 s2, .bool true, .int .i64 s4, .int .i64 s5, .int .i64 s6, .int .i64 s7, .bool true, .slice a n c] 34 w.heap.size rfl).alloc (.cells #[.int .i64 m1, .int .i64 m2, .int .i64 m3, .int .i64 m4, .int .i64 m5, .int .i64 m6, .int .i64 m7, .bool false, .int .i64 m9, .slice am nm cm] 55)).alloc (.cells #[.int .i64 0, .int .i64 0, .bool false, .int .i64 0, .int .i64 0, .int .i64 0, .int .i64 0, .bool false, .slice none 0 0] 34))
  have BM := Lib.hid ((Bk.new (w.alloc (.cells #[.int .i64 s1, .int .i64 s2, .bool true, .int .i64 s4, .int .i64 s5, .int .i64 s6, .int .i64 s7, .bool true, .slice a n c] 34)) #[.int .i64 m1, .int .i64 m2, .int .i64 m3, .int .i64 m4, .int .i64 m5, .int .i64 m6, .int .i64 m7, .bool false, .int .i64 m9, .slice am nm cm] 55 (w.heap.size + 1) (by simp)).alloc (.cells #[.int .i64 0, .int .i64 0, .bool false, .int .i64 0, .int .i64 0, .int .i64 0, .int .i64 0, .bool false, .slice none 0 0] 34))
  have BR := Lib.hid (Bk.new ((w.alloc (.cells #[.int .i64 s1, .int .i64 s2, .bool true, .int .i64 s4, .int .i64 s5, .int .i64 s6, .int .i64 s7, .bool true, .slice a n c] 34)).alloc (.cells #[.int .i64 m1, .int .i64 m2, .int .i64 m3, .int .i64 m4, .int .i64 m5, .int .i64 m6, .int .i64 m7, .bool false, .int .i64 m9, .slice am nm cm] 55)) #[.int .i64 0, .int .i64 0, .bool false, .int .i64 0, .int .i64 0, .int .i64 0, .int .i64 0, .bool false, .slice none 0 0] 34 (w.heap.size + 1 + 1) (by simp))
  refine (HCK.out _ X0).mono ?_
  generalize ((w.alloc (.cells #[.int .i64 s1, .int .i64 s2, .bool true, .int .i64 s4, .int .i64 s5, .int .i64 s6, .int .i64 s7, .bool true, .slice a n c] 34)).alloc (.cells #[.int .i64 m1, .int .i64 m2, .int .i64 m3, .int .i64 m4, .int .i64 m5, .int .i64 m6, .int .i64 m7, .bool false, .int .i64 m9, .slice am nm cm] 55)).alloc (.cells #[.int .i64 0, .int .i64 0, .bool false, .int .i64 0, .int .i64 0, .int .i64 0, .int .i64 0, .bool false, .slice none 0 0] 34) = W at *
  rintro e w1 ⟨rfl, x1⟩
  have BS1 := Lib.hid (BS.out.ext x1)
  have BM1 := Lib.hid (BM.out.ext x1)
  have BR1 := Lib.hid (BR.out.ext x1)
  have X1 := X0.trans x1
  have qs := BS1.out.cell
  have qm := BM1.out.cell
  clear BS BM BR HCK
  go_wp2_with fail
  go_step3
  go_wp2_with fail
  refine (HNW.out _).mono ?_
  rintro e w2 ⟨rfl, rfl⟩
  go_wp2_with fail
  have XX := X1
  have BSX := BS1
  have BMX := BM1
  have BRX := BR1
  obtain ⟨wX, hwX⟩ : ∃ wX, wX = w1 := ⟨_, rfl⟩
  subst hwX
  refine (HD.out _ XX).mono ?_
  rintro e w3 ⟨a3, c3, he, x3, r3⟩
  simp only [HNN.out] at he r3
  subst he
  have BR3 := Lib.hid (BRX.out.ext x3)
  clear qs qm
  have q3 := BR3.out.cell
  have f3 := BR3.out.frozen
  go_wp2_with fail
  (try rw [Exit.noGoto_ret])
  change bodyPost _ _ _ _ _ (put w3 (w.heap.size + 1 + 1) 0 [.int .i64 s1, .int .i64 s2, .bool true, .int .i64 s4, .int .i64 s5, .int .i64 s6, .int .i64 s7, .bool true, .slice a3 n c3])
  have C4 := put_all (vs := [.int .i64 s1, .int .i64 s2, .bool true, .int .i64 s4, .int .i64 s5, .int .i64 s6, .int .i64 s7, .bool true, .slice a3 n c3]) BR3.out rfl
  have X4 := put_ext (a := w) (show w.heap.size ≤ w.heap.size + 1 + 1 by omega) [.int .i64 s1, .int .i64 s2, .bool true, .int .i64 s4, .int .i64 s5, .int .i64 s6, .int .i64 s7, .bool true, .slice a3 n c3] 0 _ (XX.trans x3)
  have R4 := (r3.agree (agree_put (V := Old wX) (B := w.heap.size + 1 + 1) BRX.out.lt [.int .i64 s1, .int .i64 s2, .bool true, .int .i64 s4, .int .i64 s5, .int .i64 s6, .int .i64 s7, .bool true, .slice a3 n c3] 0 w3)).weak (by omega) (V' := Old w) (fun g _ hg => XX.lt hg)
  generalize put w3 (w.heap.size + 1 + 1) 0 [.int .i64 s1, .int .i64 s2, .bool true, .int .i64 s4, .int .i64 s5, .int .i64 s6, .int .i64 s7, .bool true, .slice a3 n c3] = w4 at *
  have c4 := C4.cell
  exact bodyPost_ret (v := .tuple #[.agg #[.int .i64 s1, .int .i64 s2, .bool true, .int .i64 s4, .int .i64 s5, .int .i64 s6, .int .i64 s7, .bool true, .slice a3 n c3], .int .i64 4]) (by simp [results, Try.results28, go_sem, c4]) rfl (HF.out _ _ _ X4 R4)
set_option maxRecDepth 100000 in
set_option maxHeartbeats 4000000 in
theorem take_old2b (s : SSt) (m : Msg) (v u : Value) (w : World) (hv : RF Any 6 valE w v s.vals) (hu : RF Any 6 valE w u m.vals) (hl : s.vals.length ≤ 1000000000) (hck : chkM m = 0) (hpub : m.pub = s.pub) (hrev : m.rev = s.rev) (hkn : s.known = true) (hlf : ¬ s.left < 1) (hst : m.state = s.state) (hnb : newB s.seq m.seq = true) (hte : s.test = false) (htm : m.test = true) :
    Calls Try.prog 28 #[subA s v, msgA m u] w (RetT w (s, 4)) := by
  have HCK := Lib.hid (fun w1 (he : Ext w w1) => checkM_any m u w1 (hu.ext he))
  rw [hck] at HCK
  clear hck
  have HD := Lib.hid (fun w1 (he : Ext w w1) => dupSub_any s v w1 (hv.ext he) hl)
  have HNW := Lib.hid (fun w1 => newer_any s.seq m.seq w1)
  obtain ⟨a, c, rfl, _, _⟩ := hv.form
  obtain ⟨am, cm, rfl, _, _⟩ := hu.form
  have HF : Hid (∀ w' a' c', Ext w w' → RF (Old w) 6 valE w' (.slice a' s.vals.length c') s.vals → RetT w (s, 4) (.returned (.tuple #[subA s (.slice a' s.vals.length c'), .int .i64 4])) w') := fun w' a' c' he hr => ⟨a', c', rfl, he, hr⟩
  generalize hss : RetT w (s, 4) = R at *
  clear hss hv hu hl
  obtain ⟨s1, s2, s3, s4, s5, s6, s7, s8, vs⟩ := s
  obtain ⟨m1, m2, m3, m4, m5, m6, m7, m8, m9, vm⟩ := m
  simp only at *
  have hp : (m1 != s1) = false := by simpa using hpub
  have hr : (m9 != s2) = false := by simpa using hrev
  clear hpub hrev
  subst hkn
  have hle : decide (s6 < 1) = false := by simpa using hlf
  clear hlf
  have hse : (m6 == s4) = true := by simpa using hst
  clear hst
  rw [hnb] at HNW
  clear hnb
  generalize dist s5 m7 = d at *
  subst hte htm
  generalize hn : vs.length = n at *
  have HNN := Lib.hid hn
  generalize hnm : vm.length = nm at *
  have HNM := Lib.hid hnm
  clear hn hnm
  go_enter Try.func28, Try.ntmps28
  go_wp2_with fail
  go_step3
  go_wp2_with fail
  have X0 : Ext w (((w.alloc (.cells #[.int .i64 s1, .int .i64 s2, .bool true, .int .i64 s4, .int .i64 s5, .int .i64 s6, .int .i64 s7, .bool false, .slice a n c] 34)).alloc (.cells #[.int .i64 m1, .int .i64 m2, .int .i64 m3, .int .i64 m4, .int .i64 m5, .int .i64 m6, .int .i64 m7, .bool true, .int .i64 m9, .slice am nm cm] 55)).alloc (.cells #[.int .i64 0, .int .i64 0, .bool false, .int .i64 0, .int .i64 0, .int .i64 0, .int .i64 0, .bool false, .slice none 0 0] 34)) := (((Ext.refl w).alloc _).alloc _).alloc _
  have BS := Lib.hid (((Bk.new w #[.int .i64 s1, .int .i64 s2, .bool true, .int .i64 s4, .int .i64 s5, .int .i64 s6, .int .i64 s7, .bool false, .slice a n c] 34 w.heap.size rfl).alloc (.cells #[.int .i64 m1, .int .i64 m2, .int .i64 m3, .int .i64 m4, .int .i64 m5, .int .i64 m6, .int .i64 m7, .bool true, .int .i64 m9, .slice am nm cm] 55)).alloc (.cells #[.int .i64 0, .int .i64 0, .bool false, .int .i64 0, .int .i64 0, .int .i64 0, .int .i64 0, .bool false, .slice none 0 0] 34))
  have BM := Lib.hid ((Bk.new (w.alloc (.cells #[.int .i64 s1, .int .i64 s2, .bool true, .int .i64 s4, .int .i64 s5, .int .i64 s6, .int .i64 s7, .bool false, .slice a n c] 34)) #[.int .i64 m1, .int .i64 m2, .int .i64 m3, .int .i64 m4, .int .i64 m5, .int .i64 m6, .int .i64 m7, .bool true, .int .i64 m9, .slice am nm cm] 55 (w.heap.size + 1) (by simp)).alloc (.cells #[.int .i64 0, .int .i64 0, .bool false, .int .i64 0, .int .i64 0, .int .i64 0, .int .i64 0, .bool false, .slice none 0 0] 34))
  have BR := Lib.hid (Bk.new ((w.alloc (.cells #[.int .i64 s1, .int .i64 s2, .bool true, .int .i64 s4, .int .i64 s5, .int .i64 s6, .int .i64 s7, .bool false, .slice a n c] 34)).alloc (.cells #[.int .i64 m1, .int .i64 m2, .int .i64 m3, .int .i64 m4, .int .i64 m5, .int .i64 m6, .int .i64 m7, .bool true, .int .i64 m9, .slice am nm cm] 55)) #[.int .i64 0, .int .i64 0, .bool false, .int .i64 0, .int .i64 0, .int .i64 0, .int .i64 0, .bool false, .slice none 0 0] 34 (w.heap.size + 1 + 1) (by simp))
  refine (HCK.out _ X0).mono ?_
  generalize ((w.alloc (.cells #[.int .i64 s1, .int .i64 s2, .bool true, .int .i64 s4, .int .i64 s5, .int .i64 s6, .int .i64 s7, .bool false, .slice a n c] 34)).alloc (.cells #[.int .i64 m1, .int .i64 m2, .int .i64 m3, .int .i64 m4, .int .i64 m5, .int .i64 m6, .int .i64 m7, .bool true, .int .i64 m9, .slice am nm cm] 55)).alloc (.cells #[.int .i64 0, .int .i64 0, .bool false, .int .i64 0, .int .i64 0, .int .i64 0, .int .i64 0, .bool false, .slice none 0 0] 34) = W at *
  rintro e w1 ⟨rfl, x1⟩
  have BS1 := Lib.hid (BS.out.ext x1)
  have BM1 := Lib.hid (BM.out.ext x1)
  have BR1 := Lib.hid (BR.out.ext x1)
  have X1 := X0.trans x1
  have qs := BS1.out.cell
  have qm := BM1.out.cell
  clear BS BM BR HCK
  go_wp2_with fail
  go_step3
  go_wp2_with fail
  refine (HNW.out _).mono ?_
  rintro e w2 ⟨rfl, rfl⟩
  go_wp2_with fail
  have XX := X1
  have BSX := BS1
  have BMX := BM1
  have BRX := BR1
  obtain ⟨wX, hwX⟩ : ∃ wX, wX = w1 := ⟨_, rfl⟩
  subst hwX
  refine (HD.out _ XX).mono ?_
  rintro e w3 ⟨a3, c3, he, x3, r3⟩
  simp only [HNN.out] at he r3
  subst he
  have BR3 := Lib.hid (BRX.out.ext x3)
  clear qs qm
  have q3 := BR3.out.cell
  have f3 := BR3.out.frozen
  go_wp2_with fail
  (try rw [Exit.noGoto_ret])
  change bodyPost _ _ _ _ _ (put w3 (w.heap.size + 1 + 1) 0 [.int .i64 s1, .int .i64 s2, .bool true, .int .i64 s4, .int .i64 s5, .int .i64 s6, .int .i64 s7, .bool false, .slice a3 n c3])
  have C4 := put_all (vs := [.int .i64 s1, .int .i64 s2, .bool true, .int .i64 s4, .int .i64 s5, .int .i64 s6, .int .i64 s7, .bool false, .slice a3 n c3]) BR3.out rfl
  have X4 := put_ext (a := w) (show w.heap.size ≤ w.heap.size + 1 + 1 by omega) [.int .i64 s1, .int .i64 s2, .bool true, .int .i64 s4, .int .i64 s5, .int .i64 s6, .int .i64 s7, .bool false, .slice a3 n c3] 0 _ (XX.trans x3)
  have R4 := (r3.agree (agree_put (V := Old wX) (B := w.heap.size + 1 + 1) BRX.out.lt [.int .i64 s1, .int .i64 s2, .bool true, .int .i64 s4, .int .i64 s5, .int .i64 s6, .int .i64 s7, .bool false, .slice a3 n c3] 0 w3)).weak (by omega) (V' := Old w) (fun g _ hg => XX.lt hg)
  generalize put w3 (w.heap.size + 1 + 1) 0 [.int .i64 s1, .int .i64 s2, .bool true, .int .i64 s4, .int .i64 s5, .int .i64 s6, .int .i64 s7, .bool false, .slice a3 n c3] = w4 at *
  have c4 := C4.cell
  exact bodyPost_ret (v := .tuple #[.agg #[.int .i64 s1, .int .i64 s2, .bool true, .int .i64 s4, .int .i64 s5, .int .i64 s6, .int .i64 s7, .bool false, .slice a3 n c3], .int .i64 4]) (by simp [results, Try.results28, go_sem, c4]) rfl (HF.out _ _ _ X4 R4)
set_option maxRecDepth 100000 in
set_option maxHeartbeats 4000000 in
theorem take_old3 (s : SSt) (m : Msg) (v u : Value) (w : World) (hv : RF Any 6 valE w v s.vals) (hu : RF Any 6 valE w u m.vals) (hl : s.vals.length ≤ 1000000000) (hck : chkM m = 0) (hpub : m.pub = s.pub) (hrev : m.rev = s.rev) (hkn : s.known = true) (hlf : ¬ s.left < 1) (hst : m.state = s.state) (hnb : newB s.seq m.seq = true) (hte : m.test = s.test) (hva : m.vals ≠ s.vals) :
    Calls Try.prog 28 #[subA s v, msgA m u] w (RetT w (s, 4)) := by
  have HCK := Lib.hid (fun w1 (he : Ext w w1) => checkM_any m u w1 (hu.ext he))
  rw [hck] at HCK
  clear hck
  have HD := Lib.hid (fun w1 (he : Ext w w1) => dupSub_any s v w1 (hv.ext he) hl)
  have HSV := Lib.hid (fun w1 (he : Ext w w1) => sameVals_any m.vals s.vals u v w1 (hu.ext he) (hv.ext he))
  have HNW := Lib.hid (fun w1 => newer_any s.seq m.seq w1)
  obtain ⟨a, c, rfl, _, _⟩ := hv.form
  obtain ⟨am, cm, rfl, _, _⟩ := hu.form
  have HF : Hid (∀ w' a' c', Ext w w' → RF (Old w) 6 valE w' (.slice a' s.vals.length c') s.vals → RetT w (s, 4) (.returned (.tuple #[subA s (.slice a' s.vals.length c'), .int .i64 4])) w') := fun w' a' c' he hr => ⟨a', c', rfl, he, hr⟩
  generalize hss : RetT w (s, 4) = R at *
  clear hss hv hu hl
  obtain ⟨s1, s2, s3, s4, s5, s6, s7, s8, vs⟩ := s
  obtain ⟨m1, m2, m3, m4, m5, m6, m7, m8, m9, vm⟩ := m
  simp only at *
  have hp : (m1 != s1) = false := by simpa using hpub
  have hr : (m9 != s2) = false := by simpa using hrev
  clear hpub hrev
  subst hkn
  have hle : decide (s6 < 1) = false := by simpa using hlf
  clear hlf
  have hse : (m6 == s4) = true := by simpa using hst
  clear hst
  rw [hnb] at HNW
  clear hnb
  generalize dist s5 m7 = d at *
  subst hte
  have hvb : decide (vm = vs) = false := by simpa using hva
  rw [hvb] at HSV
  clear hvb hva
  generalize hn : vs.length = n at *
  have HNN := Lib.hid hn
  generalize hnm : vm.length = nm at *
  have HNM := Lib.hid hnm
  clear hn hnm
  go_enter Try.func28, Try.ntmps28
  go_wp2_with fail
  go_step3
  go_wp2_with fail
  have X0 : Ext w (((w.alloc (.cells #[.int .i64 s1, .int .i64 s2, .bool true, .int .i64 s4, .int .i64 s5, .int .i64 s6, .int .i64 s7, .bool m8, .slice a n c] 34)).alloc (.cells #[.int .i64 m1, .int .i64 m2, .int .i64 m3, .int .i64 m4, .int .i64 m5, .int .i64 m6, .int .i64 m7, .bool m8, .int .i64 m9, .slice am nm cm] 55)).alloc (.cells #[.int .i64 0, .int .i64 0, .bool false, .int .i64 0, .int .i64 0, .int .i64 0, .int .i64 0, .bool false, .slice none 0 0] 34)) := (((Ext.refl w).alloc _).alloc _).alloc _
  have BS := Lib.hid (((Bk.new w #[.int .i64 s1, .int .i64 s2, .bool true, .int .i64 s4, .int .i64 s5, .int .i64 s6, .int .i64 s7, .bool m8, .slice a n c] 34 w.heap.size rfl).alloc (.cells #[.int .i64 m1, .int .i64 m2, .int .i64 m3, .int .i64 m4, .int .i64 m5, .int .i64 m6, .int .i64 m7, .bool m8, .int .i64 m9, .slice am nm cm] 55)).alloc (.cells #[.int .i64 0, .int .i64 0, .bool false, .int .i64 0, .int .i64 0, .int .i64 0, .int .i64 0, .bool false, .slice none 0 0] 34))
  have BM := Lib.hid ((Bk.new (w.alloc (.cells #[.int .i64 s1, .int .i64 s2, .bool true, .int .i64 s4, .int .i64 s5, .int .i64 s6, .int .i64 s7, .bool m8, .slice a n c] 34)) #[.int .i64 m1, .int .i64 m2, .int .i64 m3, .int .i64 m4, .int .i64 m5, .int .i64 m6, .int .i64 m7, .bool m8, .int .i64 m9, .slice am nm cm] 55 (w.heap.size + 1) (by simp)).alloc (.cells #[.int .i64 0, .int .i64 0, .bool false, .int .i64 0, .int .i64 0, .int .i64 0, .int .i64 0, .bool false, .slice none 0 0] 34))
  have BR := Lib.hid (Bk.new ((w.alloc (.cells #[.int .i64 s1, .int .i64 s2, .bool true, .int .i64 s4, .int .i64 s5, .int .i64 s6, .int .i64 s7, .bool m8, .slice a n c] 34)).alloc (.cells #[.int .i64 m1, .int .i64 m2, .int .i64 m3, .int .i64 m4, .int .i64 m5, .int .i64 m6, .int .i64 m7, .bool m8, .int .i64 m9, .slice am nm cm] 55)) #[.int .i64 0, .int .i64 0, .bool false, .int .i64 0, .int .i64 0, .int .i64 0, .int .i64 0, .bool false, .slice none 0 0] 34 (w.heap.size + 1 + 1) (by simp))
  refine (HCK.out _ X0).mono ?_
  generalize ((w.alloc (.cells #[.int .i64 s1, .int .i64 s2, .bool true, .int .i64 s4, .int .i64 s5, .int .i64 s6, .int .i64 s7, .bool m8, .slice a n c] 34)).alloc (.cells #[.int .i64 m1, .int .i64 m2, .int .i64 m3, .int .i64 m4, .int .i64 m5, .int .i64 m6, .int .i64 m7, .bool m8, .int .i64 m9, .slice am nm cm] 55)).alloc (.cells #[.int .i64 0, .int .i64 0, .bool false, .int .i64 0, .int .i64 0, .int .i64 0, .int .i64 0, .bool false, .slice none 0 0] 34) = W at *
  rintro e w1 ⟨rfl, x1⟩
  have BS1 := Lib.hid (BS.out.ext x1)
  have BM1 := Lib.hid (BM.out.ext x1)
  have BR1 := Lib.hid (BR.out.ext x1)
  have X1 := X0.trans x1
  have qs := BS1.out.cell
  have qm := BM1.out.cell
  clear BS BM BR HCK
  go_wp2_with fail
  go_step3
  go_wp2_with fail
  refine (HNW.out _).mono ?_
  rintro e w2 ⟨rfl, rfl⟩
  go_wp2_with fail
  refine (HSV.out _ X1).mono ?_
  rintro e w2 ⟨rfl, x2⟩
  have XX := X1.trans x2
  have BSX := Lib.hid (BS1.out.ext x2)
  have BMX := Lib.hid (BM1.out.ext x2)
  have BRX := Lib.hid (BR1.out.ext x2)
  clear qs qm
  have qs := BSX.out.cell
  have qm := BMX.out.cell
  obtain ⟨wX, hwX⟩ : ∃ wX, wX = w2 := ⟨_, rfl⟩
  subst hwX
  go_wp2_with fail
  refine (HD.out _ XX).mono ?_
  rintro e w3 ⟨a3, c3, he, x3, r3⟩
  simp only [HNN.out] at he r3
  subst he
  have BR3 := Lib.hid (BRX.out.ext x3)
  clear qs qm
  have q3 := BR3.out.cell
  have f3 := BR3.out.frozen
  go_wp2_with fail
  (try rw [Exit.noGoto_ret])
  change bodyPost _ _ _ _ _ (put w3 (w.heap.size + 1 + 1) 0 [.int .i64 s1, .int .i64 s2, .bool true, .int .i64 s4, .int .i64 s5, .int .i64 s6, .int .i64 s7, .bool m8, .slice a3 n c3])
  have C4 := put_all (vs := [.int .i64 s1, .int .i64 s2, .bool true, .int .i64 s4, .int .i64 s5, .int .i64 s6, .int .i64 s7, .bool m8, .slice a3 n c3]) BR3.out rfl
  have X4 := put_ext (a := w) (show w.heap.size ≤ w.heap.size + 1 + 1 by omega) [.int .i64 s1, .int .i64 s2, .bool true, .int .i64 s4, .int .i64 s5, .int .i64 s6, .int .i64 s7, .bool m8, .slice a3 n c3] 0 _ (XX.trans x3)
  have R4 := (r3.agree (agree_put (V := Old wX) (B := w.heap.size + 1 + 1) BRX.out.lt [.int .i64 s1, .int .i64 s2, .bool true, .int .i64 s4, .int .i64 s5, .int .i64 s6, .int .i64 s7, .bool m8, .slice a3 n c3] 0 w3)).weak (by omega) (V' := Old w) (fun g _ hg => XX.lt hg)
  generalize put w3 (w.heap.size + 1 + 1) 0 [.int .i64 s1, .int .i64 s2, .bool true, .int .i64 s4, .int .i64 s5, .int .i64 s6, .int .i64 s7, .bool m8, .slice a3 n c3] = w4 at *
  have c4 := C4.cell
  exact bodyPost_ret (v := .tuple #[.agg #[.int .i64 s1, .int .i64 s2, .bool true, .int .i64 s4, .int .i64 s5, .int .i64 s6, .int .i64 s7, .bool m8, .slice a3 n c3], .int .i64 4]) (by simp [results, Try.results28, go_sem, c4]) rfl (HF.out _ _ _ X4 R4)
set_option maxRecDepth 100000 in
set_option maxHeartbeats 4000000 in
theorem take_rep (s : SSt) (m : Msg) (v u : Value) (w : World) (hv : RF Any 6 valE w v s.vals) (hu : RF Any 6 valE w u m.vals) (hl' : m.vals.length ≤ 1000000000) (hck : chkM m = 0) (hpub : m.pub = s.pub) (hrev : m.rev = s.rev) (hkn : s.known = true) (hlf : ¬ s.left < 1) (hst : m.state = s.state) (hnb : newB s.seq m.seq = true) (hte : m.test = s.test) (hva : m.vals = s.vals) (hwr : s.lost < 1000000 → IntKind.i64.wrap (s.lost + (dist s.seq m.seq - 1)) = s.lost + (dist s.seq m.seq - 1)) :
    Calls Try.prog 28 #[subA s v, msgA m u] w (RetT w (accS s m (dist s.seq m.seq - 1), 3)) := by
  have HCK := Lib.hid (fun w1 (he : Ext w w1) => checkM_any m u w1 (hu.ext he))
  rw [hck] at HCK
  clear hck
  have HACC := Lib.hid (fun (bs bm : Nat) w1 (he : Ext w w1) (h1 : Bk w1 bs 34 (subC s v)) (h2 : Bk w1 bm 55 (msgC m u)) => accept_any s m v u bs bm (dist s.seq m.seq - 1) 3 w1 h1 h2 (hu.ext he) hl' hwr)
  have HSV := Lib.hid (fun w1 (he : Ext w w1) => sameVals_any m.vals s.vals u v w1 (hu.ext he) (hv.ext he))
  have HNW := Lib.hid (fun w1 => newer_any s.seq m.seq w1)
  obtain ⟨a, c, rfl, _, _⟩ := hv.form
  obtain ⟨am, cm, rfl, _, _⟩ := hu.form
  have HF : Hid (∀ w' a' c', Ext w w' → RF (Old w) 6 valE w' (.slice a' m.vals.length c') m.vals → RetT w (accS s m (dist s.seq m.seq - 1), 3) (.returned (.tuple #[.agg #[.int .i64 s.pub, .int .i64 s.rev, .bool true, .int .i64 m.state, .int .i64 m.seq, .int .i64 m.ttl, .int .i64 (raiseS s.lost (dist s.seq m.seq - 1)), .bool m.test, .slice a' m.vals.length c'], .int .i64 3])) w') := fun w' a' c' he hr => ⟨a', c', rfl, he, hr⟩
  obtain ⟨r7, hr7⟩ : ∃ r7, raiseS s.lost (dist s.seq m.seq - 1) = r7 := ⟨_, rfl⟩
  rw [hr7] at HF
  have HR7 := Lib.hid hr7
  clear hr7 hwr
  generalize hss : RetT w (accS s m (dist s.seq m.seq - 1), 3) = R at *
  clear hss hv hu hl'
  obtain ⟨s1, s2, s3, s4, s5, s6, s7, s8, vs⟩ := s
  obtain ⟨m1, m2, m3, m4, m5, m6, m7, m8, m9, vm⟩ := m
  simp only at *
  have hp : (m1 != s1) = false := by simpa using hpub
  have hr : (m9 != s2) = false := by simpa using hrev
  clear hpub hrev
  subst hkn
  have hle : decide (s6 < 1) = false := by simpa using hlf
  clear hlf
  have hse : (m6 == s4) = true := by simpa using hst
  clear hst
  have hdl := dist_lo s5 m7
  have ew : IntKind.i64.wrap (dist s5 m7 - 1) = dist s5 m7 - 1 := IntWalk.i64_in _ (by omega)
  clear hdl
  rw [hnb] at HNW
  clear hnb
  generalize dist s5 m7 = d at *
  subst hte
  have hvb : decide (vm = vs) = true := by simpa using hva
  rw [hvb] at HSV
  clear hvb hva
  generalize hn : vs.length = n at *
  have HNN := Lib.hid hn
  generalize hnm : vm.length = nm at *
  have HNM := Lib.hid hnm
  clear hn hnm
  go_enter Try.func28, Try.ntmps28
  go_wp2_with fail
  go_step3
  go_wp2_with fail
  have X0 : Ext w (((w.alloc (.cells #[.int .i64 s1, .int .i64 s2, .bool true, .int .i64 s4, .int .i64 s5, .int .i64 s6, .int .i64 s7, .bool m8, .slice a n c] 34)).alloc (.cells #[.int .i64 m1, .int .i64 m2, .int .i64 m3, .int .i64 m4, .int .i64 m5, .int .i64 m6, .int .i64 m7, .bool m8, .int .i64 m9, .slice am nm cm] 55)).alloc (.cells #[.int .i64 0, .int .i64 0, .bool false, .int .i64 0, .int .i64 0, .int .i64 0, .int .i64 0, .bool false, .slice none 0 0] 34)) := (((Ext.refl w).alloc _).alloc _).alloc _
  have BS := Lib.hid (((Bk.new w #[.int .i64 s1, .int .i64 s2, .bool true, .int .i64 s4, .int .i64 s5, .int .i64 s6, .int .i64 s7, .bool m8, .slice a n c] 34 w.heap.size rfl).alloc (.cells #[.int .i64 m1, .int .i64 m2, .int .i64 m3, .int .i64 m4, .int .i64 m5, .int .i64 m6, .int .i64 m7, .bool m8, .int .i64 m9, .slice am nm cm] 55)).alloc (.cells #[.int .i64 0, .int .i64 0, .bool false, .int .i64 0, .int .i64 0, .int .i64 0, .int .i64 0, .bool false, .slice none 0 0] 34))
  have BM := Lib.hid ((Bk.new (w.alloc (.cells #[.int .i64 s1, .int .i64 s2, .bool true, .int .i64 s4, .int .i64 s5, .int .i64 s6, .int .i64 s7, .bool m8, .slice a n c] 34)) #[.int .i64 m1, .int .i64 m2, .int .i64 m3, .int .i64 m4, .int .i64 m5, .int .i64 m6, .int .i64 m7, .bool m8, .int .i64 m9, .slice am nm cm] 55 (w.heap.size + 1) (by simp)).alloc (.cells #[.int .i64 0, .int .i64 0, .bool false, .int .i64 0, .int .i64 0, .int .i64 0, .int .i64 0, .bool false, .slice none 0 0] 34))
  have BR := Lib.hid (Bk.new ((w.alloc (.cells #[.int .i64 s1, .int .i64 s2, .bool true, .int .i64 s4, .int .i64 s5, .int .i64 s6, .int .i64 s7, .bool m8, .slice a n c] 34)).alloc (.cells #[.int .i64 m1, .int .i64 m2, .int .i64 m3, .int .i64 m4, .int .i64 m5, .int .i64 m6, .int .i64 m7, .bool m8, .int .i64 m9, .slice am nm cm] 55)) #[.int .i64 0, .int .i64 0, .bool false, .int .i64 0, .int .i64 0, .int .i64 0, .int .i64 0, .bool false, .slice none 0 0] 34 (w.heap.size + 1 + 1) (by simp))
  refine (HCK.out _ X0).mono ?_
  generalize ((w.alloc (.cells #[.int .i64 s1, .int .i64 s2, .bool true, .int .i64 s4, .int .i64 s5, .int .i64 s6, .int .i64 s7, .bool m8, .slice a n c] 34)).alloc (.cells #[.int .i64 m1, .int .i64 m2, .int .i64 m3, .int .i64 m4, .int .i64 m5, .int .i64 m6, .int .i64 m7, .bool m8, .int .i64 m9, .slice am nm cm] 55)).alloc (.cells #[.int .i64 0, .int .i64 0, .bool false, .int .i64 0, .int .i64 0, .int .i64 0, .int .i64 0, .bool false, .slice none 0 0] 34) = W at *
  rintro e w1 ⟨rfl, x1⟩
  have BS1 := Lib.hid (BS.out.ext x1)
  have BM1 := Lib.hid (BM.out.ext x1)
  have BR1 := Lib.hid (BR.out.ext x1)
  have X1 := X0.trans x1
  have qs := BS1.out.cell
  have qm := BM1.out.cell
  clear BS BM BR HCK
  go_wp2_with fail
  go_step3
  go_wp2_with fail
  refine (HNW.out _).mono ?_
  rintro e w2 ⟨rfl, rfl⟩
  go_wp2_with fail
  refine (HSV.out _ X1).mono ?_
  rintro e w2 ⟨rfl, x2⟩
  have XX := X1.trans x2
  have BSX := Lib.hid (BS1.out.ext x2)
  have BMX := Lib.hid (BM1.out.ext x2)
  have BRX := Lib.hid (BR1.out.ext x2)
  clear qs qm
  have qs := BSX.out.cell
  have qm := BMX.out.cell
  obtain ⟨wX, hwX⟩ : ∃ wX, wX = w2 := ⟨_, rfl⟩
  subst hwX
  go_wp2_with fail
  refine (HACC.out _ _ _ XX BSX.out BMX.out).mono ?_
  rintro e w3 ⟨a3, c3, he, x3, r3⟩
  simp only [accS, HR7.out, HNM.out] at he r3
  subst he
  have BR3 := Lib.hid (BRX.out.ext x3)
  clear qs qm
  have q3 := BR3.out.cell
  have f3 := BR3.out.frozen
  go_wp2_with fail
  (try rw [Exit.noGoto_ret])
  change bodyPost _ _ _ _ _ (put w3 (w.heap.size + 1 + 1) 0 [.int .i64 s1, .int .i64 s2, .bool true, .int .i64 m6, .int .i64 m7, .int .i64 m2, .int .i64 r7, .bool m8, .slice a3 nm c3])
  have C4 := put_all (vs := [.int .i64 s1, .int .i64 s2, .bool true, .int .i64 m6, .int .i64 m7, .int .i64 m2, .int .i64 r7, .bool m8, .slice a3 nm c3]) BR3.out rfl
  have X4 := put_ext (a := w) (show w.heap.size ≤ w.heap.size + 1 + 1 by omega) [.int .i64 s1, .int .i64 s2, .bool true, .int .i64 m6, .int .i64 m7, .int .i64 m2, .int .i64 r7, .bool m8, .slice a3 nm c3] 0 _ (XX.trans x3)
  have R4 := (r3.agree (agree_put (V := Old wX) (B := w.heap.size + 1 + 1) BRX.out.lt [.int .i64 s1, .int .i64 s2, .bool true, .int .i64 m6, .int .i64 m7, .int .i64 m2, .int .i64 r7, .bool m8, .slice a3 nm c3] 0 w3)).weak (by omega) (V' := Old w) (fun g _ hg => XX.lt hg)
  generalize put w3 (w.heap.size + 1 + 1) 0 [.int .i64 s1, .int .i64 s2, .bool true, .int .i64 m6, .int .i64 m7, .int .i64 m2, .int .i64 r7, .bool m8, .slice a3 nm c3] = w4 at *
  have c4 := C4.cell
  exact bodyPost_ret (v := .tuple #[.agg #[.int .i64 s1, .int .i64 s2, .bool true, .int .i64 m6, .int .i64 m7, .int .i64 m2, .int .i64 r7, .bool m8, .slice a3 nm c3], .int .i64 3]) (by simp [results, Try.results28, go_sem, c4]) rfl (HF.out _ _ _ X4 R4)
set_option maxRecDepth 100000 in
set_option maxHeartbeats 4000000 in
theorem take_old4 (s : SSt) (m : Msg) (v u : Value) (w : World) (hv : RF Any 6 valE w v s.vals) (hu : RF Any 6 valE w u m.vals) (hl : s.vals.length ≤ 1000000000) (hck : chkM m = 0) (hpub : m.pub = s.pub) (hrev : m.rev = s.rev) (hkn : s.known = true) (hlf : ¬ s.left < 1) (hst : m.state ≠ s.state) (hnb : newB s.state m.state = false) :
    Calls Try.prog 28 #[subA s v, msgA m u] w (RetT w (s, 4)) := by
  have HCK := Lib.hid (fun w1 (he : Ext w w1) => checkM_any m u w1 (hu.ext he))
  rw [hck] at HCK
  clear hck
  have HD := Lib.hid (fun w1 (he : Ext w w1) => dupSub_any s v w1 (hv.ext he) hl)
  have HNW := Lib.hid (fun w1 => newer_any s.state m.state w1)
  obtain ⟨a, c, rfl, _, _⟩ := hv.form
  obtain ⟨am, cm, rfl, _, _⟩ := hu.form
  have HF : Hid (∀ w' a' c', Ext w w' → RF (Old w) 6 valE w' (.slice a' s.vals.length c') s.vals → RetT w (s, 4) (.returned (.tuple #[subA s (.slice a' s.vals.length c'), .int .i64 4])) w') := fun w' a' c' he hr => ⟨a', c', rfl, he, hr⟩
  generalize hss : RetT w (s, 4) = R at *
  clear hss hv hu hl
  obtain ⟨s1, s2, s3, s4, s5, s6, s7, s8, vs⟩ := s
  obtain ⟨m1, m2, m3, m4, m5, m6, m7, m8, m9, vm⟩ := m
  simp only at *
  have hp : (m1 != s1) = false := by simpa using hpub
  have hr : (m9 != s2) = false := by simpa using hrev
  clear hpub hrev
  subst hkn
  have hle : decide (s6 < 1) = false := by simpa using hlf
  clear hlf
  have hse : (m6 == s4) = false := by simpa using hst
  clear hst
  rw [hnb] at HNW
  clear hnb
  generalize dist s4 m6 = d at *
  generalize hn : vs.length = n at *
  have HNN := Lib.hid hn
  generalize hnm : vm.length = nm at *
  have HNM := Lib.hid hnm
  clear hn hnm
  go_enter Try.func28, Try.ntmps28
  go_wp2_with fail
  go_step3
  go_wp2_with fail
  have X0 : Ext w (((w.alloc (.cells #[.int .i64 s1, .int .i64 s2, .bool true, .int .i64 s4, .int .i64 s5, .int .i64 s6, .int .i64 s7, .bool s8, .slice a n c] 34)).alloc (.cells #[.int .i64 m1, .int .i64 m2, .int .i64 m3, .int .i64 m4, .int .i64 m5, .int .i64 m6, .int .i64 m7, .bool m8, .int .i64 m9, .slice am nm cm] 55)).alloc (.cells #[.int .i64 0, .int .i64 0, .bool false, .int .i64 0, .int .i64 0, .int .i64 0, .int .i64 0, .bool false, .slice none 0 0] 34)) := (((Ext.refl w).alloc _).alloc _).alloc _
  have BS := Lib.hid (((Bk.new w #[.int .i64 s1, .int .i64 s2, .bool true, .int .i64 s4, .int .i64 s5, .int .i64 s6, .int .i64 s7, .bool s8, .slice a n c] 34 w.heap.size rfl).alloc (.cells #[.int .i64 m1, .int .i64 m2, .int .i64 m3, .int .i64 m4, .int .i64 m5, .int .i64 m6, .int .i64 m7, .bool m8, .int .i64 m9, .slice am nm cm] 55)).alloc (.cells #[.int .i64 0, .int .i64 0, .bool false, .int .i64 0, .int .i64 0, .int .i64 0, .int .i64 0, .bool false, .slice none 0 0] 34))
  have BM := Lib.hid ((Bk.new (w.alloc (.cells #[.int .i64 s1, .int .i64 s2, .bool true, .int .i64 s4, .int .i64 s5, .int .i64 s6, .int .i64 s7, .bool s8, .slice a n c] 34)) #[.int .i64 m1, .int .i64 m2, .int .i64 m3, .int .i64 m4, .int .i64 m5, .int .i64 m6, .int .i64 m7, .bool m8, .int .i64 m9, .slice am nm cm] 55 (w.heap.size + 1) (by simp)).alloc (.cells #[.int .i64 0, .int .i64 0, .bool false, .int .i64 0, .int .i64 0, .int .i64 0, .int .i64 0, .bool false, .slice none 0 0] 34))
  have BR := Lib.hid (Bk.new ((w.alloc (.cells #[.int .i64 s1, .int .i64 s2, .bool true, .int .i64 s4, .int .i64 s5, .int .i64 s6, .int .i64 s7, .bool s8, .slice a n c] 34)).alloc (.cells #[.int .i64 m1, .int .i64 m2, .int .i64 m3, .int .i64 m4, .int .i64 m5, .int .i64 m6, .int .i64 m7, .bool m8, .int .i64 m9, .slice am nm cm] 55)) #[.int .i64 0, .int .i64 0, .bool false, .int .i64 0, .int .i64 0, .int .i64 0, .int .i64 0, .bool false, .slice none 0 0] 34 (w.heap.size + 1 + 1) (by simp))
  refine (HCK.out _ X0).mono ?_
  generalize ((w.alloc (.cells #[.int .i64 s1, .int .i64 s2, .bool true, .int .i64 s4, .int .i64 s5, .int .i64 s6, .int .i64 s7, .bool s8, .slice a n c] 34)).alloc (.cells #[.int .i64 m1, .int .i64 m2, .int .i64 m3, .int .i64 m4, .int .i64 m5, .int .i64 m6, .int .i64 m7, .bool m8, .int .i64 m9, .slice am nm cm] 55)).alloc (.cells #[.int .i64 0, .int .i64 0, .bool false, .int .i64 0, .int .i64 0, .int .i64 0, .int .i64 0, .bool false, .slice none 0 0] 34) = W at *
  rintro e w1 ⟨rfl, x1⟩
  have BS1 := Lib.hid (BS.out.ext x1)
  have BM1 := Lib.hid (BM.out.ext x1)
  have BR1 := Lib.hid (BR.out.ext x1)
  have X1 := X0.trans x1
  have qs := BS1.out.cell
  have qm := BM1.out.cell
  clear BS BM BR HCK
  go_wp2_with fail
  go_step3
  go_wp2_with fail
  refine (HNW.out _).mono ?_
  rintro e w2 ⟨rfl, rfl⟩
  go_wp2_with fail
  have XX := X1
  have BSX := BS1
  have BMX := BM1
  have BRX := BR1
  obtain ⟨wX, hwX⟩ : ∃ wX, wX = w1 := ⟨_, rfl⟩
  subst hwX
  refine (HD.out _ XX).mono ?_
  rintro e w3 ⟨a3, c3, he, x3, r3⟩
  simp only [HNN.out] at he r3
  subst he
  have BR3 := Lib.hid (BRX.out.ext x3)
  clear qs qm
  have q3 := BR3.out.cell
  have f3 := BR3.out.frozen
  go_wp2_with fail
  (try rw [Exit.noGoto_ret])
  change bodyPost _ _ _ _ _ (put w3 (w.heap.size + 1 + 1) 0 [.int .i64 s1, .int .i64 s2, .bool true, .int .i64 s4, .int .i64 s5, .int .i64 s6, .int .i64 s7, .bool s8, .slice a3 n c3])
  have C4 := put_all (vs := [.int .i64 s1, .int .i64 s2, .bool true, .int .i64 s4, .int .i64 s5, .int .i64 s6, .int .i64 s7, .bool s8, .slice a3 n c3]) BR3.out rfl
  have X4 := put_ext (a := w) (show w.heap.size ≤ w.heap.size + 1 + 1 by omega) [.int .i64 s1, .int .i64 s2, .bool true, .int .i64 s4, .int .i64 s5, .int .i64 s6, .int .i64 s7, .bool s8, .slice a3 n c3] 0 _ (XX.trans x3)
  have R4 := (r3.agree (agree_put (V := Old wX) (B := w.heap.size + 1 + 1) BRX.out.lt [.int .i64 s1, .int .i64 s2, .bool true, .int .i64 s4, .int .i64 s5, .int .i64 s6, .int .i64 s7, .bool s8, .slice a3 n c3] 0 w3)).weak (by omega) (V' := Old w) (fun g _ hg => XX.lt hg)
  generalize put w3 (w.heap.size + 1 + 1) 0 [.int .i64 s1, .int .i64 s2, .bool true, .int .i64 s4, .int .i64 s5, .int .i64 s6, .int .i64 s7, .bool s8, .slice a3 n c3] = w4 at *
  have c4 := C4.cell
  exact bodyPost_ret (v := .tuple #[.agg #[.int .i64 s1, .int .i64 s2, .bool true, .int .i64 s4, .int .i64 s5, .int .i64 s6, .int .i64 s7, .bool s8, .slice a3 n c3], .int .i64 4]) (by simp [results, Try.results28, go_sem, c4]) rfl (HF.out _ _ _ X4 R4)
set_option maxRecDepth 100000 in
set_option maxHeartbeats 4000000 in
theorem take_change (s : SSt) (m : Msg) (v u : Value) (w : World) (hv : RF Any 6 valE w v s.vals) (hu : RF Any 6 valE w u m.vals) (hl' : m.vals.length ≤ 1000000000) (hck : chkM m = 0) (hpub : m.pub = s.pub) (hrev : m.rev = s.rev) (hkn : s.known = true) (hlf : ¬ s.left < 1) (hst : m.state ≠ s.state) (hnb : newB s.state m.state = true) (hsq : 0 ≤ m.seq ∧ m.seq ≤ 4294967295) (hwr : s.lost < 1000000 → IntKind.i64.wrap (s.lost + (dist s.state m.state - 1 + m.seq)) = s.lost + (dist s.state m.state - 1 + m.seq)) :
    Calls Try.prog 28 #[subA s v, msgA m u] w (RetT w (accS s m (dist s.state m.state - 1 + m.seq), 2)) := by
  have HCK := Lib.hid (fun w1 (he : Ext w w1) => checkM_any m u w1 (hu.ext he))
  rw [hck] at HCK
  clear hck
  have HACC := Lib.hid (fun (bs bm : Nat) w1 (he : Ext w w1) (h1 : Bk w1 bs 34 (subC s v)) (h2 : Bk w1 bm 55 (msgC m u)) => accept_any s m v u bs bm (dist s.state m.state - 1 + m.seq) 2 w1 h1 h2 (hu.ext he) hl' hwr)
  have HNW := Lib.hid (fun w1 => newer_any s.state m.state w1)
  obtain ⟨a, c, rfl, _, _⟩ := hv.form
  obtain ⟨am, cm, rfl, _, _⟩ := hu.form
  have HF : Hid (∀ w' a' c', Ext w w' → RF (Old w) 6 valE w' (.slice a' m.vals.length c') m.vals → RetT w (accS s m (dist s.state m.state - 1 + m.seq), 2) (.returned (.tuple #[.agg #[.int .i64 s.pub, .int .i64 s.rev, .bool true, .int .i64 m.state, .int .i64 m.seq, .int .i64 m.ttl, .int .i64 (raiseS s.lost (dist s.state m.state - 1 + m.seq)), .bool m.test, .slice a' m.vals.length c'], .int .i64 2])) w') := fun w' a' c' he hr => ⟨a', c', rfl, he, hr⟩
  obtain ⟨r7, hr7⟩ : ∃ r7, raiseS s.lost (dist s.state m.state - 1 + m.seq) = r7 := ⟨_, rfl⟩
  rw [hr7] at HF
  have HR7 := Lib.hid hr7
  clear hr7 hwr
  generalize hss : RetT w (accS s m (dist s.state m.state - 1 + m.seq), 2) = R at *
  clear hss hv hu hl'
  obtain ⟨s1, s2, s3, s4, s5, s6, s7, s8, vs⟩ := s
  obtain ⟨m1, m2, m3, m4, m5, m6, m7, m8, m9, vm⟩ := m
  simp only at *
  have hp : (m1 != s1) = false := by simpa using hpub
  have hr : (m9 != s2) = false := by simpa using hrev
  clear hpub hrev
  subst hkn
  have hle : decide (s6 < 1) = false := by simpa using hlf
  clear hlf
  have hse : (m6 == s4) = false := by simpa using hst
  clear hst
  have hdl := dist_lo s4 m6
  have ew : IntKind.i64.wrap (dist s4 m6 - 1) = dist s4 m6 - 1 := IntWalk.i64_in _ (by omega)
  have ew2 : IntKind.i64.wrap (dist s4 m6 - 1 + m7) = dist s4 m6 - 1 + m7 := IntWalk.i64_in _ (by omega)
  clear hdl hsq
  rw [hnb] at HNW
  clear hnb
  generalize dist s4 m6 = d at *
  generalize hn : vs.length = n at *
  have HNN := Lib.hid hn
  generalize hnm : vm.length = nm at *
  have HNM := Lib.hid hnm
  clear hn hnm
  go_enter Try.func28, Try.ntmps28
  go_wp2_with fail
  go_step3
  go_wp2_with fail
  have X0 : Ext w (((w.alloc (.cells #[.int .i64 s1, .int .i64 s2, .bool true, .int .i64 s4, .int .i64 s5, .int .i64 s6, .int .i64 s7, .bool s8, .slice a n c] 34)).alloc (.cells #[.int .i64 m1, .int .i64 m2, .int .i64 m3, .int .i64 m4, .int .i64 m5, .int .i64 m6, .int .i64 m7, .bool m8, .int .i64 m9, .slice am nm cm] 55)).alloc (.cells #[.int .i64 0, .int .i64 0, .bool false, .int .i64 0, .int .i64 0, .int .i64 0, .int .i64 0, .bool false, .slice none 0 0] 34)) := (((Ext.refl w).alloc _).alloc _).alloc _
  have BS := Lib.hid (((Bk.new w #[.int .i64 s1, .int .i64 s2, .bool true, .int .i64 s4, .int .i64 s5, .int .i64 s6, .int .i64 s7, .bool s8, .slice a n c] 34 w.heap.size rfl).alloc (.cells #[.int .i64 m1, .int .i64 m2, .int .i64 m3, .int .i64 m4, .int .i64 m5, .int .i64 m6, .int .i64 m7, .bool m8, .int .i64 m9, .slice am nm cm] 55)).alloc (.cells #[.int .i64 0, .int .i64 0, .bool false, .int .i64 0, .int .i64 0, .int .i64 0, .int .i64 0, .bool false, .slice none 0 0] 34))
  have BM := Lib.hid ((Bk.new (w.alloc (.cells #[.int .i64 s1, .int .i64 s2, .bool true, .int .i64 s4, .int .i64 s5, .int .i64 s6, .int .i64 s7, .bool s8, .slice a n c] 34)) #[.int .i64 m1, .int .i64 m2, .int .i64 m3, .int .i64 m4, .int .i64 m5, .int .i64 m6, .int .i64 m7, .bool m8, .int .i64 m9, .slice am nm cm] 55 (w.heap.size + 1) (by simp)).alloc (.cells #[.int .i64 0, .int .i64 0, .bool false, .int .i64 0, .int .i64 0, .int .i64 0, .int .i64 0, .bool false, .slice none 0 0] 34))
  have BR := Lib.hid (Bk.new ((w.alloc (.cells #[.int .i64 s1, .int .i64 s2, .bool true, .int .i64 s4, .int .i64 s5, .int .i64 s6, .int .i64 s7, .bool s8, .slice a n c] 34)).alloc (.cells #[.int .i64 m1, .int .i64 m2, .int .i64 m3, .int .i64 m4, .int .i64 m5, .int .i64 m6, .int .i64 m7, .bool m8, .int .i64 m9, .slice am nm cm] 55)) #[.int .i64 0, .int .i64 0, .bool false, .int .i64 0, .int .i64 0, .int .i64 0, .int .i64 0, .bool false, .slice none 0 0] 34 (w.heap.size + 1 + 1) (by simp))
  refine (HCK.out _ X0).mono ?_
  generalize ((w.alloc (.cells #[.int .i64 s1, .int .i64 s2, .bool true, .int .i64 s4, .int .i64 s5, .int .i64 s6, .int .i64 s7, .bool s8, .slice a n c] 34)).alloc (.cells #[.int .i64 m1, .int .i64 m2, .int .i64 m3, .int .i64 m4, .int .i64 m5, .int .i64 m6, .int .i64 m7, .bool m8, .int .i64 m9, .slice am nm cm] 55)).alloc (.cells #[.int .i64 0, .int .i64 0, .bool false, .int .i64 0, .int .i64 0, .int .i64 0, .int .i64 0, .bool false, .slice none 0 0] 34) = W at *
  rintro e w1 ⟨rfl, x1⟩
  have BS1 := Lib.hid (BS.out.ext x1)
  have BM1 := Lib.hid (BM.out.ext x1)
  have BR1 := Lib.hid (BR.out.ext x1)
  have X1 := X0.trans x1
  have qs := BS1.out.cell
  have qm := BM1.out.cell
  clear BS BM BR HCK
  go_wp2_with fail
  go_step3
  go_wp2_with fail
  refine (HNW.out _).mono ?_
  rintro e w2 ⟨rfl, rfl⟩
  go_wp2_with fail
  have XX := X1
  have BSX := BS1
  have BMX := BM1
  have BRX := BR1
  obtain ⟨wX, hwX⟩ : ∃ wX, wX = w1 := ⟨_, rfl⟩
  subst hwX
  refine (HACC.out _ _ _ XX BSX.out BMX.out).mono ?_
  rintro e w3 ⟨a3, c3, he, x3, r3⟩
  simp only [accS, HR7.out, HNM.out] at he r3
  subst he
  have BR3 := Lib.hid (BRX.out.ext x3)
  clear qs qm
  have q3 := BR3.out.cell
  have f3 := BR3.out.frozen
  go_wp2_with fail
  (try rw [Exit.noGoto_ret])
  change bodyPost _ _ _ _ _ (put w3 (w.heap.size + 1 + 1) 0 [.int .i64 s1, .int .i64 s2, .bool true, .int .i64 m6, .int .i64 m7, .int .i64 m2, .int .i64 r7, .bool m8, .slice a3 nm c3])
  have C4 := put_all (vs := [.int .i64 s1, .int .i64 s2, .bool true, .int .i64 m6, .int .i64 m7, .int .i64 m2, .int .i64 r7, .bool m8, .slice a3 nm c3]) BR3.out rfl
  have X4 := put_ext (a := w) (show w.heap.size ≤ w.heap.size + 1 + 1 by omega) [.int .i64 s1, .int .i64 s2, .bool true, .int .i64 m6, .int .i64 m7, .int .i64 m2, .int .i64 r7, .bool m8, .slice a3 nm c3] 0 _ (XX.trans x3)
  have R4 := (r3.agree (agree_put (V := Old wX) (B := w.heap.size + 1 + 1) BRX.out.lt [.int .i64 s1, .int .i64 s2, .bool true, .int .i64 m6, .int .i64 m7, .int .i64 m2, .int .i64 r7, .bool m8, .slice a3 nm c3] 0 w3)).weak (by omega) (V' := Old w) (fun g _ hg => XX.lt hg)
  generalize put w3 (w.heap.size + 1 + 1) 0 [.int .i64 s1, .int .i64 s2, .bool true, .int .i64 m6, .int .i64 m7, .int .i64 m2, .int .i64 r7, .bool m8, .slice a3 nm c3] = w4 at *
  have c4 := C4.cell
  exact bodyPost_ret (v := .tuple #[.agg #[.int .i64 s1, .int .i64 s2, .bool true, .int .i64 m6, .int .i64 m7, .int .i64 m2, .int .i64 r7, .bool m8, .slice a3 nm c3], .int .i64 2]) (by simp [results, Try.results28, go_sem, c4]) rfl (HF.out _ _ _ X4 R4)
end Go.Proofs.Ytimnepfdpehdmaa
