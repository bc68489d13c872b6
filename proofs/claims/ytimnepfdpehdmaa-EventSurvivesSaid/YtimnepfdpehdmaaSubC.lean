/- The ways of Take: layer 14. -/
import Derived.Test.YtimnepfdpehdmaaTJ
import Derived.Laws.ByValue
namespace Go.Proofs.Ytimnepfdpehdmaa
open Go.RowKit
attribute [local go_sem ↓] Go.wp_at_zero Go.wp_at_succ
set_option maxRecDepth 100000 in
set_option maxHeartbeats 4000000 in
theorem take_chk (s : SSt) (m : Msg) (v u : Value) (w : World) (hv : RF Any 6 valE w v s.vals) (hu : RF Any 6 valE w u m.vals) (hl : s.vals.length ≤ 1000000000) (hck : chkM m ≠ 0)  :
    Calls Try.prog 28 #[subA s v, msgA m u] w (RetT w (s, 0)) := by
  have HCK := Lib.hid (fun w1 (he : Ext w w1) => checkM_any m u w1 (hu.ext he))
  obtain ⟨ck, hk⟩ : ∃ ck, chkM m = ck := ⟨_, rfl⟩
  rw [hk] at HCK hck
  have hb : (ck != 0) = true := by simpa using hck
  clear hk hck
  have HD := Lib.hid (fun w1 (he : Ext w w1) => dupSub_any s v w1 (hv.ext he) hl)
  obtain ⟨a, c, rfl, _, _⟩ := hv.form
  obtain ⟨am, cm, rfl, _, _⟩ := hu.form
  have HF : Hid (∀ w' a' c', Ext w w' → RF (Old w) 6 valE w' (.slice a' s.vals.length c') s.vals → RetT w (s, 0) (.returned (.tuple #[subA s (.slice a' s.vals.length c'), .int .i64 0])) w') := fun w' a' c' he hr => ⟨a', c', rfl, he, hr⟩
  generalize hss : RetT w (s, 0) = R at *
  clear hss hv hu hl
  obtain ⟨s1, s2, s3, s4, s5, s6, s7, s8, vs⟩ := s
  obtain ⟨m1, m2, m3, m4, m5, m6, m7, m8, m9, vm⟩ := m
  simp only at *
  generalize hn : vs.length = n at *
  have HNN := Lib.hid hn
  generalize hnm : vm.length = nm at *
  have HNM := Lib.hid hnm
  clear hn hnm
  go_enter Try.func28, Try.ntmps28
  go_wp2_with fail
  go_step3
  go_wp2_with fail
  have X0 : Ext w (((w.alloc (.cells #[.int .i64 s1, .int .i64 s2, .bool s3, .int .i64 s4, .int .i64 s5, .int .i64 s6, .int .i64 s7, .bool s8, .slice a n c] 34)).alloc (.cells #[.int .i64 m1, .int .i64 m2, .int .i64 m3, .int .i64 m4, .int .i64 m5, .int .i64 m6, .int .i64 m7, .bool m8, .int .i64 m9, .slice am nm cm] 55)).alloc (.cells #[.int .i64 0, .int .i64 0, .bool false, .int .i64 0, .int .i64 0, .int .i64 0, .int .i64 0, .bool false, .slice none 0 0] 34)) := (((Ext.refl w).alloc _).alloc _).alloc _
  have BS := Lib.hid (((Bk.new w #[.int .i64 s1, .int .i64 s2, .bool s3, .int .i64 s4, .int .i64 s5, .int .i64 s6, .int .i64 s7, .bool s8, .slice a n c] 34 w.heap.size rfl).alloc (.cells #[.int .i64 m1, .int .i64 m2, .int .i64 m3, .int .i64 m4, .int .i64 m5, .int .i64 m6, .int .i64 m7, .bool m8, .int .i64 m9, .slice am nm cm] 55)).alloc (.cells #[.int .i64 0, .int .i64 0, .bool false, .int .i64 0, .int .i64 0, .int .i64 0, .int .i64 0, .bool false, .slice none 0 0] 34))
  have BM := Lib.hid ((Bk.new (w.alloc (.cells #[.int .i64 s1, .int .i64 s2, .bool s3, .int .i64 s4, .int .i64 s5, .int .i64 s6, .int .i64 s7, .bool s8, .slice a n c] 34)) #[.int .i64 m1, .int .i64 m2, .int .i64 m3, .int .i64 m4, .int .i64 m5, .int .i64 m6, .int .i64 m7, .bool m8, .int .i64 m9, .slice am nm cm] 55 (w.heap.size + 1) (by simp)).alloc (.cells #[.int .i64 0, .int .i64 0, .bool false, .int .i64 0, .int .i64 0, .int .i64 0, .int .i64 0, .bool false, .slice none 0 0] 34))
  have BR := Lib.hid (Bk.new ((w.alloc (.cells #[.int .i64 s1, .int .i64 s2, .bool s3, .int .i64 s4, .int .i64 s5, .int .i64 s6, .int .i64 s7, .bool s8, .slice a n c] 34)).alloc (.cells #[.int .i64 m1, .int .i64 m2, .int .i64 m3, .int .i64 m4, .int .i64 m5, .int .i64 m6, .int .i64 m7, .bool m8, .int .i64 m9, .slice am nm cm] 55)) #[.int .i64 0, .int .i64 0, .bool false, .int .i64 0, .int .i64 0, .int .i64 0, .int .i64 0, .bool false, .slice none 0 0] 34 (w.heap.size + 1 + 1) (by simp))
  refine (HCK.out _ X0).mono ?_
  generalize ((w.alloc (.cells #[.int .i64 s1, .int .i64 s2, .bool s3, .int .i64 s4, .int .i64 s5, .int .i64 s6, .int .i64 s7, .bool s8, .slice a n c] 34)).alloc (.cells #[.int .i64 m1, .int .i64 m2, .int .i64 m3, .int .i64 m4, .int .i64 m5, .int .i64 m6, .int .i64 m7, .bool m8, .int .i64 m9, .slice am nm cm] 55)).alloc (.cells #[.int .i64 0, .int .i64 0, .bool false, .int .i64 0, .int .i64 0, .int .i64 0, .int .i64 0, .bool false, .slice none 0 0] 34) = W at *
  rintro e w1 ⟨rfl, x1⟩
  have BS1 := Lib.hid (BS.out.ext x1)
  have BM1 := Lib.hid (BM.out.ext x1)
  have BR1 := Lib.hid (BR.out.ext x1)
  have X1 := X0.trans x1
  have qs := BS1.out.cell
  have qm := BM1.out.cell
  clear BS BM BR HCK
  go_wp2_with fail
  have XX := X1
  have BSX := BS1
  have BMX := BM1
  have BRX := BR1
  obtain ⟨wX, hwX⟩ : ∃ wX, wX = w1 := ⟨_, rfl⟩
  subst hwX
  refine (HD.out _ XX).mono ?_
  rintro e w3 ⟨a3, c3, he, x3, r3⟩
  simp only [HNN.out] at he r3
  subst he
  have BR3 := Lib.hid (BRX.out.ext x3)
  clear qs qm
  have q3 := BR3.out.cell
  have f3 := BR3.out.frozen
  go_wp2_with fail
  (try rw [Exit.noGoto_ret])
  change bodyPost _ _ _ _ _ (put w3 (w.heap.size + 1 + 1) 0 [.int .i64 s1, .int .i64 s2, .bool s3, .int .i64 s4, .int .i64 s5, .int .i64 s6, .int .i64 s7, .bool s8, .slice a3 n c3])
  have C4 := put_all (vs := [.int .i64 s1, .int .i64 s2, .bool s3, .int .i64 s4, .int .i64 s5, .int .i64 s6, .int .i64 s7, .bool s8, .slice a3 n c3]) BR3.out rfl
  have X4 := put_ext (a := w) (show w.heap.size ≤ w.heap.size + 1 + 1 by omega) [.int .i64 s1, .int .i64 s2, .bool s3, .int .i64 s4, .int .i64 s5, .int .i64 s6, .int .i64 s7, .bool s8, .slice a3 n c3] 0 _ (XX.trans x3)
  have R4 := (r3.agree (agree_put (V := Old wX) (B := w.heap.size + 1 + 1) BRX.out.lt [.int .i64 s1, .int .i64 s2, .bool s3, .int .i64 s4, .int .i64 s5, .int .i64 s6, .int .i64 s7, .bool s8, .slice a3 n c3] 0 w3)).weak (by omega) (V' := Old w) (fun g _ hg => XX.lt hg)
  generalize put w3 (w.heap.size + 1 + 1) 0 [.int .i64 s1, .int .i64 s2, .bool s3, .int .i64 s4, .int .i64 s5, .int .i64 s6, .int .i64 s7, .bool s8, .slice a3 n c3] = w4 at *
  have c4 := C4.cell
  exact bodyPost_ret (v := .tuple #[.agg #[.int .i64 s1, .int .i64 s2, .bool s3, .int .i64 s4, .int .i64 s5, .int .i64 s6, .int .i64 s7, .bool s8, .slice a3 n c3], .int .i64 0]) (by simp [results, Try.results28, go_sem, c4]) rfl (HF.out _ _ _ X4 R4)
set_option maxRecDepth 100000 in
set_option maxHeartbeats 4000000 in
theorem take_pub (s : SSt) (m : Msg) (v u : Value) (w : World) (hv : RF Any 6 valE w v s.vals) (hu : RF Any 6 valE w u m.vals) (hl : s.vals.length ≤ 1000000000) (hck : chkM m = 0) (hpub : m.pub ≠ s.pub) :
    Calls Try.prog 28 #[subA s v, msgA m u] w (RetT w (s, 0)) := by
  have HCK := Lib.hid (fun w1 (he : Ext w w1) => checkM_any m u w1 (hu.ext he))
  rw [hck] at HCK
  clear hck
  have HD := Lib.hid (fun w1 (he : Ext w w1) => dupSub_any s v w1 (hv.ext he) hl)
  obtain ⟨a, c, rfl, _, _⟩ := hv.form
  obtain ⟨am, cm, rfl, _, _⟩ := hu.form
  have HF : Hid (∀ w' a' c', Ext w w' → RF (Old w) 6 valE w' (.slice a' s.vals.length c') s.vals → RetT w (s, 0) (.returned (.tuple #[subA s (.slice a' s.vals.length c'), .int .i64 0])) w') := fun w' a' c' he hr => ⟨a', c', rfl, he, hr⟩
  generalize hss : RetT w (s, 0) = R at *
  clear hss hv hu hl
  obtain ⟨s1, s2, s3, s4, s5, s6, s7, s8, vs⟩ := s
  obtain ⟨m1, m2, m3, m4, m5, m6, m7, m8, m9, vm⟩ := m
  simp only at *
  have hp : (m1 != s1) = true := by simpa using hpub
  clear hpub
  generalize hn : vs.length = n at *
  have HNN := Lib.hid hn
  generalize hnm : vm.length = nm at *
  have HNM := Lib.hid hnm
  clear hn hnm
  go_enter Try.func28, Try.ntmps28
  go_wp2_with fail
  go_step3
  go_wp2_with fail
  have X0 : Ext w (((w.alloc (.cells #[.int .i64 s1, .int .i64 s2, .bool s3, .int .i64 s4, .int .i64 s5, .int .i64 s6, .int .i64 s7, .bool s8, .slice a n c] 34)).alloc (.cells #[.int .i64 m1, .int .i64 m2, .int .i64 m3, .int .i64 m4, .int .i64 m5, .int .i64 m6, .int .i64 m7, .bool m8, .int .i64 m9, .slice am nm cm] 55)).alloc (.cells #[.int .i64 0, .int .i64 0, .bool false, .int .i64 0, .int .i64 0, .int .i64 0, .int .i64 0, .bool false, .slice none 0 0] 34)) := (((Ext.refl w).alloc _).alloc _).alloc _
  have BS := Lib.hid (((Bk.new w #[.int .i64 s1, .int .i64 s2, .bool s3, .int .i64 s4, .int .i64 s5, .int .i64 s6, .int .i64 s7, .bool s8, .slice a n c] 34 w.heap.size rfl).alloc (.cells #[.int .i64 m1, .int .i64 m2, .int .i64 m3, .int .i64 m4, .int .i64 m5, .int .i64 m6, .int .i64 m7, .bool m8, .int .i64 m9, .slice am nm cm] 55)).alloc (.cells #[.int .i64 0, .int .i64 0, .bool false, .int .i64 0, .int .i64 0, .int .i64 0, .int .i64 0, .bool false, .slice none 0 0] 34))
  have BM := Lib.hid ((Bk.new (w.alloc (.cells #[.int .i64 s1, .int .i64 s2, .bool s3, .int .i64 s4, .int .i64 s5, .int .i64 s6, .int .i64 s7, .bool s8, .slice a n c] 34)) #[.int .i64 m1, .int .i64 m2, .int .i64 m3, .int .i64 m4, .int .i64 m5, .int .i64 m6, .int .i64 m7, .bool m8, .int .i64 m9, .slice am nm cm] 55 (w.heap.size + 1) (by simp)).alloc (.cells #[.int .i64 0, .int .i64 0, .bool false, .int .i64 0, .int .i64 0, .int .i64 0, .int .i64 0, .bool false, .slice none 0 0] 34))
  have BR := Lib.hid (Bk.new ((w.alloc (.cells #[.int .i64 s1, .int .i64 s2, .bool s3, .int .i64 s4, .int .i64 s5, .int .i64 s6, .int .i64 s7, .bool s8, .slice a n c] 34)).alloc (.cells #[.int .i64 m1, .int .i64 m2, .int .i64 m3, .int .i64 m4, .int .i64 m5, .int .i64 m6, .int .i64 m7, .bool m8, .int .i64 m9, .slice am nm cm] 55)) #[.int .i64 0, .int .i64 0, .bool false, .int .i64 0, .int .i64 0, .int .i64 0, .int .i64 0, .bool false, .slice none 0 0] 34 (w.heap.size + 1 + 1) (by simp))
  refine (HCK.out _ X0).mono ?_
  generalize ((w.alloc (.cells #[.int .i64 s1, .int .i64 s2, .bool s3, .int .i64 s4, .int .i64 s5, .int .i64 s6, .int .i64 s7, .bool s8, .slice a n c] 34)).alloc (.cells #[.int .i64 m1, .int .i64 m2, .int .i64 m3, .int .i64 m4, .int .i64 m5, .int .i64 m6, .int .i64 m7, .bool m8, .int .i64 m9, .slice am nm cm] 55)).alloc (.cells #[.int .i64 0, .int .i64 0, .bool false, .int .i64 0, .int .i64 0, .int .i64 0, .int .i64 0, .bool false, .slice none 0 0] 34) = W at *
  rintro e w1 ⟨rfl, x1⟩
  have BS1 := Lib.hid (BS.out.ext x1)
  have BM1 := Lib.hid (BM.out.ext x1)
  have BR1 := Lib.hid (BR.out.ext x1)
  have X1 := X0.trans x1
  have qs := BS1.out.cell
  have qm := BM1.out.cell
  clear BS BM BR HCK
  go_wp2_with fail
  have XX := X1
  have BSX := BS1
  have BMX := BM1
  have BRX := BR1
  obtain ⟨wX, hwX⟩ : ∃ wX, wX = w1 := ⟨_, rfl⟩
  subst hwX
  refine (HD.out _ XX).mono ?_
  rintro e w3 ⟨a3, c3, he, x3, r3⟩
  simp only [HNN.out] at he r3
  subst he
  have BR3 := Lib.hid (BRX.out.ext x3)
  clear qs qm
  have q3 := BR3.out.cell
  have f3 := BR3.out.frozen
  go_wp2_with fail
  (try rw [Exit.noGoto_ret])
  change bodyPost _ _ _ _ _ (put w3 (w.heap.size + 1 + 1) 0 [.int .i64 s1, .int .i64 s2, .bool s3, .int .i64 s4, .int .i64 s5, .int .i64 s6, .int .i64 s7, .bool s8, .slice a3 n c3])
  have C4 := put_all (vs := [.int .i64 s1, .int .i64 s2, .bool s3, .int .i64 s4, .int .i64 s5, .int .i64 s6, .int .i64 s7, .bool s8, .slice a3 n c3]) BR3.out rfl
  have X4 := put_ext (a := w) (show w.heap.size ≤ w.heap.size + 1 + 1 by omega) [.int .i64 s1, .int .i64 s2, .bool s3, .int .i64 s4, .int .i64 s5, .int .i64 s6, .int .i64 s7, .bool s8, .slice a3 n c3] 0 _ (XX.trans x3)
  have R4 := (r3.agree (agree_put (V := Old wX) (B := w.heap.size + 1 + 1) BRX.out.lt [.int .i64 s1, .int .i64 s2, .bool s3, .int .i64 s4, .int .i64 s5, .int .i64 s6, .int .i64 s7, .bool s8, .slice a3 n c3] 0 w3)).weak (by omega) (V' := Old w) (fun g _ hg => XX.lt hg)
  generalize put w3 (w.heap.size + 1 + 1) 0 [.int .i64 s1, .int .i64 s2, .bool s3, .int .i64 s4, .int .i64 s5, .int .i64 s6, .int .i64 s7, .bool s8, .slice a3 n c3] = w4 at *
  have c4 := C4.cell
  exact bodyPost_ret (v := .tuple #[.agg #[.int .i64 s1, .int .i64 s2, .bool s3, .int .i64 s4, .int .i64 s5, .int .i64 s6, .int .i64 s7, .bool s8, .slice a3 n c3], .int .i64 0]) (by simp [results, Try.results28, go_sem, c4]) rfl (HF.out _ _ _ X4 R4)
set_option maxRecDepth 100000 in
set_option maxHeartbeats 4000000 in
theorem take_rev (s : SSt) (m : Msg) (v u : Value) (w : World) (hv : RF Any 6 valE w v s.vals) (hu : RF Any 6 valE w u m.vals) (hl : s.vals.length ≤ 1000000000) (hck : chkM m = 0) (hpub : m.pub = s.pub) (hrev : m.rev ≠ s.rev) :
    Calls Try.prog 28 #[subA s v, msgA m u] w (RetT w (s, 0)) := by
  have HCK := Lib.hid (fun w1 (he : Ext w w1) => checkM_any m u w1 (hu.ext he))
  rw [hck] at HCK
  clear hck
  have HD := Lib.hid (fun w1 (he : Ext w w1) => dupSub_any s v w1 (hv.ext he) hl)
  obtain ⟨a, c, rfl, _, _⟩ := hv.form
  obtain ⟨am, cm, rfl, _, _⟩ := hu.form
  have HF : Hid (∀ w' a' c', Ext w w' → RF (Old w) 6 valE w' (.slice a' s.vals.length c') s.vals → RetT w (s, 0) (.returned (.tuple #[subA s (.slice a' s.vals.length c'), .int .i64 0])) w') := fun w' a' c' he hr => ⟨a', c', rfl, he, hr⟩
  generalize hss : RetT w (s, 0) = R at *
  clear hss hv hu hl
  obtain ⟨s1, s2, s3, s4, s5, s6, s7, s8, vs⟩ := s
  obtain ⟨m1, m2, m3, m4, m5, m6, m7, m8, m9, vm⟩ := m
  simp only at *
  have hp : (m1 != s1) = false := by simpa using hpub
  have hr : (m9 != s2) = true := by simpa using hrev
  clear hpub hrev
  generalize hn : vs.length = n at *
  have HNN := Lib.hid hn
  generalize hnm : vm.length = nm at *
  have HNM := Lib.hid hnm
  clear hn hnm
  go_enter Try.func28, Try.ntmps28
  go_wp2_with fail
  go_step3
  go_wp2_with fail
  have X0 : Ext w (((w.alloc (.cells #[.int .i64 s1, .int .i64 s2, .bool s3, .int .i64 s4, .int .i64 s5, .int .i64 s6, .int .i64 s7, .bool s8, .slice a n c] 34)).alloc (.cells #[.int .i64 m1, .int .i64 m2, .int .i64 m3, .int .i64 m4, .int .i64 m5, .int .i64 m6, .int .i64 m7, .bool m8, .int .i64 m9, .slice am nm cm] 55)).alloc (.cells #[.int .i64 0, .int .i64 0, .bool false, .int .i64 0, .int .i64 0, .int .i64 0, .int .i64 0, .bool false, .slice none 0 0] 34)) := (((Ext.refl w).alloc _).alloc _).alloc _
  have BS := Lib.hid (((Bk.new w #[.int .i64 s1, .int .i64 s2, .bool s3, .int .i64 s4, .int .i64 s5, .int .i64 s6, .int .i64 s7, .bool s8, .slice a n c] 34 w.heap.size rfl).alloc (.cells #[.int .i64 m1, .int .i64 m2, .int .i64 m3, .int .i64 m4, .int .i64 m5, .int .i64 m6, .int .i64 m7, .bool m8, .int .i64 m9, .slice am nm cm] 55)).alloc (.cells #[.int .i64 0, .int .i64 0, .bool false, .int .i64 0, .int .i64 0, .int .i64 0, .int .i64 0, .bool false, .slice none 0 0] 34))
  have BM := Lib.hid ((Bk.new (w.alloc (.cells #[.int .i64 s1, .int .i64 s2, .bool s3, .int .i64 s4, .int .i64 s5, .int .i64 s6, .int .i64 s7, .bool s8, .slice a n c] 34)) #[.int .i64 m1, .int .i64 m2, .int .i64 m3, .int .i64 m4, .int .i64 m5, .int .i64 m6, .int .i64 m7, .bool m8, .int .i64 m9, .slice am nm cm] 55 (w.heap.size + 1) (by simp)).alloc (.cells #[.int .i64 0, .int .i64 0, .bool false, .int .i64 0, .int .i64 0, .int .i64 0, .int .i64 0, .bool false, .slice none 0 0] 34))
  have BR := Lib.hid (Bk.new ((w.alloc (.cells #[.int .i64 s1, .int .i64 s2, .bool s3, .int .i64 s4, .int .i64 s5, .int .i64 s6, .int .i64 s7, .bool s8, .slice a n c] 34)).alloc (.cells #[.int .i64 m1, .int .i64 m2, .int .i64 m3, .int .i64 m4, .int .i64 m5, .int .i64 m6, .int .i64 m7, .bool m8, .int .i64 m9, .slice am nm cm] 55)) #[.int .i64 0, .int .i64 0, .bool false, .int .i64 0, .int .i64 0, .int .i64 0, .int .i64 0, .bool false, .slice none 0 0] 34 (w.heap.size + 1 + 1) (by simp))
  refine (HCK.out _ X0).mono ?_
  generalize ((w.alloc (.cells #[.int .i64 s1, .int .i64 s2, .bool s3, .int .i64 s4, .int .i64 s5, .int .i64 s6, .int .i64 s7, .bool s8, .slice a n c] 34)).alloc (.cells #[.int .i64 m1, .int .i64 m2, .int .i64 m3, .int .i64 m4, .int .i64 m5, .int .i64 m6, .int .i64 m7, .bool m8, .int .i64 m9, .slice am nm cm] 55)).alloc (.cells #[.int .i64 0, .int .i64 0, .bool false, .int .i64 0, .int .i64 0, .int .i64 0, .int .i64 0, .bool false, .slice none 0 0] 34) = W at *
  rintro e w1 ⟨rfl, x1⟩
  have BS1 := Lib.hid (BS.out.ext x1)
  have BM1 := Lib.hid (BM.out.ext x1)
  have BR1 := Lib.hid (BR.out.ext x1)
  have X1 := X0.trans x1
  have qs := BS1.out.cell
  have qm := BM1.out.cell
  clear BS BM BR HCK
  go_wp2_with fail
  have XX := X1
  have BSX := BS1
  have BMX := BM1
  have BRX := BR1
  obtain ⟨wX, hwX⟩ : ∃ wX, wX = w1 := ⟨_, rfl⟩
  subst hwX
  refine (HD.out _ XX).mono ?_
  rintro e w3 ⟨a3, c3, he, x3, r3⟩
  simp only [HNN.out] at he r3
  subst he
  have BR3 := Lib.hid (BRX.out.ext x3)
  clear qs qm
  have q3 := BR3.out.cell
  have f3 := BR3.out.frozen
  go_wp2_with fail
  (try rw [Exit.noGoto_ret])
  change bodyPost _ _ _ _ _ (put w3 (w.heap.size + 1 + 1) 0 [.int .i64 s1, .int .i64 s2, .bool s3, .int .i64 s4, .int .i64 s5, .int .i64 s6, .int .i64 s7, .bool s8, .slice a3 n c3])
  have C4 := put_all (vs := [.int .i64 s1, .int .i64 s2, .bool s3, .int .i64 s4, .int .i64 s5, .int .i64 s6, .int .i64 s7, .bool s8, .slice a3 n c3]) BR3.out rfl
  have X4 := put_ext (a := w) (show w.heap.size ≤ w.heap.size + 1 + 1 by omega) [.int .i64 s1, .int .i64 s2, .bool s3, .int .i64 s4, .int .i64 s5, .int .i64 s6, .int .i64 s7, .bool s8, .slice a3 n c3] 0 _ (XX.trans x3)
  have R4 := (r3.agree (agree_put (V := Old wX) (B := w.heap.size + 1 + 1) BRX.out.lt [.int .i64 s1, .int .i64 s2, .bool s3, .int .i64 s4, .int .i64 s5, .int .i64 s6, .int .i64 s7, .bool s8, .slice a3 n c3] 0 w3)).weak (by omega) (V' := Old w) (fun g _ hg => XX.lt hg)
  generalize put w3 (w.heap.size + 1 + 1) 0 [.int .i64 s1, .int .i64 s2, .bool s3, .int .i64 s4, .int .i64 s5, .int .i64 s6, .int .i64 s7, .bool s8, .slice a3 n c3] = w4 at *
  have c4 := C4.cell
  exact bodyPost_ret (v := .tuple #[.agg #[.int .i64 s1, .int .i64 s2, .bool s3, .int .i64 s4, .int .i64 s5, .int .i64 s6, .int .i64 s7, .bool s8, .slice a3 n c3], .int .i64 0]) (by simp [results, Try.results28, go_sem, c4]) rfl (HF.out _ _ _ X4 R4)
set_option maxRecDepth 100000 in
set_option maxHeartbeats 4000000 in
theorem take_first (s : SSt) (m : Msg) (v u : Value) (w : World) (hv : RF Any 6 valE w v s.vals) (hu : RF Any 6 valE w u m.vals) (hl' : m.vals.length ≤ 1000000000) (hck : chkM m = 0) (hpub : m.pub = s.pub) (hrev : m.rev = s.rev) (hkn : s.known = false) (hwr : s.lost < 1000000 → IntKind.i64.wrap (s.lost + (0)) = s.lost + (0)) :
    Calls Try.prog 28 #[subA s v, msgA m u] w (RetT w (accS s m (0), 1)) := by
  have HCK := Lib.hid (fun w1 (he : Ext w w1) => checkM_any m u w1 (hu.ext he))
  rw [hck] at HCK
  clear hck
  have HACC := Lib.hid (fun (bs bm : Nat) w1 (he : Ext w w1) (h1 : Bk w1 bs 34 (subC s v)) (h2 : Bk w1 bm 55 (msgC m u)) => accept_any s m v u bs bm (0) 1 w1 h1 h2 (hu.ext he) hl' hwr)
  obtain ⟨a, c, rfl, _, _⟩ := hv.form
  obtain ⟨am, cm, rfl, _, _⟩ := hu.form
  have HF : Hid (∀ w' a' c', Ext w w' → RF (Old w) 6 valE w' (.slice a' m.vals.length c') m.vals → RetT w (accS s m (0), 1) (.returned (.tuple #[.agg #[.int .i64 s.pub, .int .i64 s.rev, .bool true, .int .i64 m.state, .int .i64 m.seq, .int .i64 m.ttl, .int .i64 (raiseS s.lost (0)), .bool m.test, .slice a' m.vals.length c'], .int .i64 1])) w') := fun w' a' c' he hr => ⟨a', c', rfl, he, hr⟩
  obtain ⟨r7, hr7⟩ : ∃ r7, raiseS s.lost (0) = r7 := ⟨_, rfl⟩
  rw [hr7] at HF
  have HR7 := Lib.hid hr7
  clear hr7 hwr
  generalize hss : RetT w (accS s m (0), 1) = R at *
  clear hss hv hu hl'
  obtain ⟨s1, s2, s3, s4, s5, s6, s7, s8, vs⟩ := s
  obtain ⟨m1, m2, m3, m4, m5, m6, m7, m8, m9, vm⟩ := m
  simp only at *
  have hp : (m1 != s1) = false := by simpa using hpub
  have hr : (m9 != s2) = false := by simpa using hrev
  clear hpub hrev
  subst hkn
  generalize hn : vs.length = n at *
  have HNN := Lib.hid hn
  generalize hnm : vm.length = nm at *
  have HNM := Lib.hid hnm
  clear hn hnm
  go_enter Try.func28, Try.ntmps28
  go_wp2_with fail
  go_step3
  go_wp2_with fail
  have X0 : Ext w (((w.alloc (.cells #[.int .i64 s1, .int .i64 s2, .bool false, .int .i64 s4, .int .i64 s5, .int .i64 s6, .int .i64 s7, .bool s8, .slice a n c] 34)).alloc (.cells #[.int .i64 m1, .int .i64 m2, .int .i64 m3, .int .i64 m4, .int .i64 m5, .int .i64 m6, .int .i64 m7, .bool m8, .int .i64 m9, .slice am nm cm] 55)).alloc (.cells #[.int .i64 0, .int .i64 0, .bool false, .int .i64 0, .int .i64 0, .int .i64 0, .int .i64 0, .bool false, .slice none 0 0] 34)) := (((Ext.refl w).alloc _).alloc _).alloc _
  have BS := Lib.hid (((Bk.new w #[.int .i64 s1, .int .i64 s2, .bool false, .int .i64 s4, .int .i64 s5, .int .i64 s6, .int .i64 s7, .bool s8, .slice a n c] 34 w.heap.size rfl).alloc (.cells #[.int .i64 m1, .int .i64 m2, .int .i64 m3, .int .i64 m4, .int .i64 m5, .int .i64 m6, .int .i64 m7, .bool m8, .int .i64 m9, .slice am nm cm] 55)).alloc (.cells #[.int .i64 0, .int .i64 0, .bool false, .int .i64 0, .int .i64 0, .int .i64 0, .int .i64 0, .bool false, .slice none 0 0] 34))
  have BM := Lib.hid ((Bk.new (w.alloc (.cells #[.int .i64 s1, .int .i64 s2, .bool false, .int .i64 s4, .int .i64 s5, .int .i64 s6, .int .i64 s7, .bool s8, .slice a n c] 34)) #[.int .i64 m1, .int .i64 m2, .int .i64 m3, .int .i64 m4, .int .i64 m5, .int .i64 m6, .int .i64 m7, .bool m8, .int .i64 m9, .slice am nm cm] 55 (w.heap.size + 1) (by simp)).alloc (.cells #[.int .i64 0, .int .i64 0, .bool false, .int .i64 0, .int .i64 0, .int .i64 0, .int .i64 0, .bool false, .slice none 0 0] 34))
  have BR := Lib.hid (Bk.new ((w.alloc (.cells #[.int .i64 s1, .int .i64 s2, .bool false, .int .i64 s4, .int .i64 s5, .int .i64 s6, .int .i64 s7, .bool s8, .slice a n c] 34)).alloc (.cells #[.int .i64 m1, .int .i64 m2, .int .i64 m3, .int .i64 m4, .int .i64 m5, .int .i64 m6, .int .i64 m7, .bool m8, .int .i64 m9, .slice am nm cm] 55)) #[.int .i64 0, .int .i64 0, .bool false, .int .i64 0, .int .i64 0, .int .i64 0, .int .i64 0, .bool false, .slice none 0 0] 34 (w.heap.size + 1 + 1) (by simp))
  refine (HCK.out _ X0).mono ?_
  generalize ((w.alloc (.cells #[.int .i64 s1, .int .i64 s2, .bool false, .int .i64 s4, .int .i64 s5, .int .i64 s6, .int .i64 s7, .bool s8, .slice a n c] 34)).alloc (.cells #[.int .i64 m1, .int .i64 m2, .int .i64 m3, .int .i64 m4, .int .i64 m5, .int .i64 m6, .int .i64 m7, .bool m8, .int .i64 m9, .slice am nm cm] 55)).alloc (.cells #[.int .i64 0, .int .i64 0, .bool false, .int .i64 0, .int .i64 0, .int .i64 0, .int .i64 0, .bool false, .slice none 0 0] 34) = W at *
  rintro e w1 ⟨rfl, x1⟩
  have BS1 := Lib.hid (BS.out.ext x1)
  have BM1 := Lib.hid (BM.out.ext x1)
  have BR1 := Lib.hid (BR.out.ext x1)
  have X1 := X0.trans x1
  have qs := BS1.out.cell
  have qm := BM1.out.cell
  clear BS BM BR HCK
  go_wp2_with fail
  have XX := X1
  have BSX := BS1
  have BMX := BM1
  have BRX := BR1
  obtain ⟨wX, hwX⟩ : ∃ wX, wX = w1 := ⟨_, rfl⟩
  subst hwX
  refine (HACC.out _ _ _ XX BSX.out BMX.out).mono ?_
  rintro e w3 ⟨a3, c3, he, x3, r3⟩
  simp only [accS, HR7.out, HNM.out] at he r3
  subst he
  have BR3 := Lib.hid (BRX.out.ext x3)
  clear qs qm
  have q3 := BR3.out.cell
  have f3 := BR3.out.frozen
  go_wp2_with fail
  (try rw [Exit.noGoto_ret])
  change bodyPost _ _ _ _ _ (put w3 (w.heap.size + 1 + 1) 0 [.int .i64 s1, .int .i64 s2, .bool true, .int .i64 m6, .int .i64 m7, .int .i64 m2, .int .i64 r7, .bool m8, .slice a3 nm c3])
  have C4 := put_all (vs := [.int .i64 s1, .int .i64 s2, .bool true, .int .i64 m6, .int .i64 m7, .int .i64 m2, .int .i64 r7, .bool m8, .slice a3 nm c3]) BR3.out rfl
  have X4 := put_ext (a := w) (show w.heap.size ≤ w.heap.size + 1 + 1 by omega) [.int .i64 s1, .int .i64 s2, .bool true, .int .i64 m6, .int .i64 m7, .int .i64 m2, .int .i64 r7, .bool m8, .slice a3 nm c3] 0 _ (XX.trans x3)
  have R4 := (r3.agree (agree_put (V := Old wX) (B := w.heap.size + 1 + 1) BRX.out.lt [.int .i64 s1, .int .i64 s2, .bool true, .int .i64 m6, .int .i64 m7, .int .i64 m2, .int .i64 r7, .bool m8, .slice a3 nm c3] 0 w3)).weak (by omega) (V' := Old w) (fun g _ hg => XX.lt hg)
  generalize put w3 (w.heap.size + 1 + 1) 0 [.int .i64 s1, .int .i64 s2, .bool true, .int .i64 m6, .int .i64 m7, .int .i64 m2, .int .i64 r7, .bool m8, .slice a3 nm c3] = w4 at *
  have c4 := C4.cell
  exact bodyPost_ret (v := .tuple #[.agg #[.int .i64 s1, .int .i64 s2, .bool true, .int .i64 m6, .int .i64 m7, .int .i64 m2, .int .i64 r7, .bool m8, .slice a3 nm c3], .int .i64 1]) (by simp [results, Try.results28, go_sem, c4]) rfl (HF.out _ _ _ X4 R4)
set_option maxRecDepth 100000 in
set_option maxHeartbeats 4000000 in
theorem take_restart (s : SSt) (m : Msg) (v u : Value) (w : World) (hv : RF Any 6 valE w v s.vals) (hu : RF Any 6 valE w u m.vals) (hl' : m.vals.length ≤ 1000000000) (hck : chkM m = 0) (hpub : m.pub = s.pub) (hrev : m.rev = s.rev) (hkn : s.known = true) (hlf : s.left < 1) (hwr : s.lost < 1000000 → IntKind.i64.wrap (s.lost + (0)) = s.lost + (0)) :
    Calls Try.prog 28 #[subA s v, msgA m u] w (RetT w (accS s m (0), 5)) := by
  have HCK := Lib.hid (fun w1 (he : Ext w w1) => checkM_any m u w1 (hu.ext he))
  rw [hck] at HCK
  clear hck
  have HACC := Lib.hid (fun (bs bm : Nat) w1 (he : Ext w w1) (h1 : Bk w1 bs 34 (subC s v)) (h2 : Bk w1 bm 55 (msgC m u)) => accept_any s m v u bs bm (0) 5 w1 h1 h2 (hu.ext he) hl' hwr)
  obtain ⟨a, c, rfl, _, _⟩ := hv.form
  obtain ⟨am, cm, rfl, _, _⟩ := hu.form
  have HF : Hid (∀ w' a' c', Ext w w' → RF (Old w) 6 valE w' (.slice a' m.vals.length c') m.vals → RetT w (accS s m (0), 5) (.returned (.tuple #[.agg #[.int .i64 s.pub, .int .i64 s.rev, .bool true, .int .i64 m.state, .int .i64 m.seq, .int .i64 m.ttl, .int .i64 (raiseS s.lost (0)), .bool m.test, .slice a' m.vals.length c'], .int .i64 5])) w') := fun w' a' c' he hr => ⟨a', c', rfl, he, hr⟩
  obtain ⟨r7, hr7⟩ : ∃ r7, raiseS s.lost (0) = r7 := ⟨_, rfl⟩
  rw [hr7] at HF
  have HR7 := Lib.hid hr7
  clear hr7 hwr
  generalize hss : RetT w (accS s m (0), 5) = R at *
  clear hss hv hu hl'
  obtain ⟨s1, s2, s3, s4, s5, s6, s7, s8, vs⟩ := s
  obtain ⟨m1, m2, m3, m4, m5, m6, m7, m8, m9, vm⟩ := m
  simp only at *
  have hp : (m1 != s1) = false := by simpa using hpub
  have hr : (m9 != s2) = false := by simpa using hrev
  clear hpub hrev
  subst hkn
  have hle : decide (s6 < 1) = true := by simpa using hlf
  clear hlf
  generalize hn : vs.length = n at *
  have HNN := Lib.hid hn
  generalize hnm : vm.length = nm at *
  have HNM := Lib.hid hnm
  clear hn hnm
  go_enter Try.func28, Try.ntmps28
  go_wp2_with fail
  go_step3
  go_wp2_with fail
  have X0 : Ext w (((w.alloc (.cells #[.int .i64 s1, .int .i64 s2, .bool true, .int .i64 s4, .int .i64 s5, .int .i64 s6, .int .i64 s7, .bool s8, .slice a n c] 34)).alloc (.cells #[.int .i64 m1, .int .i64 m2, .int .i64 m3, .int .i64 m4, .int .i64 m5, .int .i64 m6, .int .i64 m7, .bool m8, .int .i64 m9, .slice am nm cm] 55)).alloc (.cells #[.int .i64 0, .int .i64 0, .bool false, .int .i64 0, .int .i64 0, .int .i64 0, .int .i64 0, .bool false, .slice none 0 0] 34)) := (((Ext.refl w).alloc _).alloc _).alloc _
  have BS := Lib.hid (((Bk.new w #[.int .i64 s1, .int .i64 s2, .bool true, .int .i64 s4, .int .i64 s5, .int .i64 s6, .int .i64 s7, .bool s8, .slice a n c] 34 w.heap.size rfl).alloc (.cells #[.int .i64 m1, .int .i64 m2, .int .i64 m3, .int .i64 m4, .int .i64 m5, .int .i64 m6, .int .i64 m7, .bool m8, .int .i64 m9, .slice am nm cm] 55)).alloc (.cells #[.int .i64 0, .int .i64 0, .bool false, .int .i64 0, .int .i64 0, .int .i64 0, .int .i64 0, .bool false, .slice none 0 0] 34))
  have BM := Lib.hid ((Bk.new (w.alloc (.cells #[.int .i64 s1, .int .i64 s2, .bool true, .int .i64 s4, .int .i64 s5, .int .i64 s6, .int .i64 s7, .bool s8, .slice a n c] 34)) #[.int .i64 m1, .int .i64 m2, .int .i64 m3, .int .i64 m4, .int .i64 m5, .int .i64 m6, .int .i64 m7, .bool m8, .int .i64 m9, .slice am nm cm] 55 (w.heap.size + 1) (by simp)).alloc (.cells #[.int .i64 0, .int .i64 0, .bool false, .int .i64 0, .int .i64 0, .int .i64 0, .int .i64 0, .bool false, .slice none 0 0] 34))
  have BR := Lib.hid (Bk.new ((w.alloc (.cells #[.int .i64 s1, .int .i64 s2, .bool true, .int .i64 s4, .int .i64 s5, .int .i64 s6, .int .i64 s7, .bool s8, .slice a n c] 34)).alloc (.cells #[.int .i64 m1, .int .i64 m2, .int .i64 m3, .int .i64 m4, .int .i64 m5, .int .i64 m6, .int .i64 m7, .bool m8, .int .i64 m9, .slice am nm cm] 55)) #[.int .i64 0, .int .i64 0, .bool false, .int .i64 0, .int .i64 0, .int .i64 0, .int .i64 0, .bool false, .slice none 0 0] 34 (w.heap.size + 1 + 1) (by simp))
  refine (HCK.out _ X0).mono ?_
  generalize ((w.alloc (.cells #[.int .i64 s1, .int .i64 s2, .bool true, .int .i64 s4, .int .i64 s5, .int .i64 s6, .int .i64 s7, .bool s8, .slice a n c] 34)).alloc (.cells #[.int .i64 m1, .int .i64 m2, .int .i64 m3, .int .i64 m4, .int .i64 m5, .int .i64 m6, .int .i64 m7, .bool m8, .int .i64 m9, .slice am nm cm] 55)).alloc (.cells #[.int .i64 0, .int .i64 0, .bool false, .int .i64 0, .int .i64 0, .int .i64 0, .int .i64 0, .bool false, .slice none 0 0] 34) = W at *
  rintro e w1 ⟨rfl, x1⟩
  have BS1 := Lib.hid (BS.out.ext x1)
  have BM1 := Lib.hid (BM.out.ext x1)
  have BR1 := Lib.hid (BR.out.ext x1)
  have X1 := X0.trans x1
  have qs := BS1.out.cell
  have qm := BM1.out.cell
  clear BS BM BR HCK
  go_wp2_with fail
  have XX := X1
  have BSX := BS1
  have BMX := BM1
  have BRX := BR1
  obtain ⟨wX, hwX⟩ : ∃ wX, wX = w1 := ⟨_, rfl⟩
  subst hwX
  refine (HACC.out _ _ _ XX BSX.out BMX.out).mono ?_
  rintro e w3 ⟨a3, c3, he, x3, r3⟩
  simp only [accS, HR7.out, HNM.out] at he r3
  subst he
  have BR3 := Lib.hid (BRX.out.ext x3)
  clear qs qm
  have q3 := BR3.out.cell
  have f3 := BR3.out.frozen
  go_wp2_with fail
  (try rw [Exit.noGoto_ret])
  change bodyPost _ _ _ _ _ (put w3 (w.heap.size + 1 + 1) 0 [.int .i64 s1, .int .i64 s2, .bool true, .int .i64 m6, .int .i64 m7, .int .i64 m2, .int .i64 r7, .bool m8, .slice a3 nm c3])
  have C4 := put_all (vs := [.int .i64 s1, .int .i64 s2, .bool true, .int .i64 m6, .int .i64 m7, .int .i64 m2, .int .i64 r7, .bool m8, .slice a3 nm c3]) BR3.out rfl
  have X4 := put_ext (a := w) (show w.heap.size ≤ w.heap.size + 1 + 1 by omega) [.int .i64 s1, .int .i64 s2, .bool true, .int .i64 m6, .int .i64 m7, .int .i64 m2, .int .i64 r7, .bool m8, .slice a3 nm c3] 0 _ (XX.trans x3)
  have R4 := (r3.agree (agree_put (V := Old wX) (B := w.heap.size + 1 + 1) BRX.out.lt [.int .i64 s1, .int .i64 s2, .bool true, .int .i64 m6, .int .i64 m7, .int .i64 m2, .int .i64 r7, .bool m8, .slice a3 nm c3] 0 w3)).weak (by omega) (V' := Old w) (fun g _ hg => XX.lt hg)
  generalize put w3 (w.heap.size + 1 + 1) 0 [.int .i64 s1, .int .i64 s2, .bool true, .int .i64 m6, .int .i64 m7, .int .i64 m2, .int .i64 r7, .bool m8, .slice a3 nm c3] = w4 at *
  have c4 := C4.cell
  exact bodyPost_ret (v := .tuple #[.agg #[.int .i64 s1, .int .i64 s2, .bool true, .int .i64 m6, .int .i64 m7, .int .i64 m2, .int .i64 r7, .bool m8, .slice a3 nm c3], .int .i64 5]) (by simp [results, Try.results28, go_sem, c4]) rfl (HF.out _ _ _ X4 R4)
end Go.Proofs.Ytimnepfdpehdmaa
