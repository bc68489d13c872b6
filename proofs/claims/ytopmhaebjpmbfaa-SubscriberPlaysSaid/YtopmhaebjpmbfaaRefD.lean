/- Take of the reference: layer 14. -/
import Derived.Test.YtopmhaebjpmbfaaRefC
import Derived.Test.YtopmhaebjpmbfaaMsgR
namespace Go.Proofs.Ytopmhaebjpmbfaa
open Go.RowKit
attribute [local go_sem ↓] Go.wp_at_zero Go.wp_at_succ

/-- A subscriber and what the message was; the values lie outside the blocks V. -/
def RetTV (V : Nat → Prop) (w : World) (t : SSt × Int) (e : Ending) (w' : World) : Prop := ∃ a c, e = .returned (.tuple #[subA t.1 (.slice a t.1.vals.length c), .int .i64 t.2]) ∧ Ext w w' ∧ RF V 6 valE w' (.slice a t.1.vals.length c) t.1.vals
set_option maxRecDepth 100000 in
set_option maxHeartbeats 8000000 in
theorem takeR_first {V : Nat → Prop} (s : SSt) (m : Msg) (v u : Value) (w : World) (hv : RF V 6 valE w v s.vals) (hu : RF Any 6 valE w u m.vals) (hV : ∀ g, V g → g < w.heap.size) (hl' : m.vals.length ≤ 1000000000) (hlo : 0 ≤ s.lost ∧ s.lost ≤ 1000000) (hck : chkM m = 0) (hpub : m.pub = s.pub) (hrev : m.rev = s.rev) (hkn : s.known = false) :
    Calls Try.prog 36 #[subA s v, msgA m u] w (RetTV V w (accS s m (0), 1)) := by
  have HCK := Lib.hid (fun w1 (he : Ext w w1) => checkMR_any m u w1 (hu.ext he))
  rw [hck] at HCK
  clear hck
  have HOV : Hid (∀ (wa wb : World) (u' : Value), Ext w wa → RF (Old wa) 6 valE wb u' m.vals → RF V 6 valE wb u' m.vals) := fun wa wb u' he h => h.weak (by omega) (fun g _ hg => he.lt (hV g hg))
  have HACC0 := Lib.hid (fun (a : Option Addr) (n c : Nat) w1 (he : Ext w w1) => acceptR_any s m a n c u (0) w1 (hu.ext he) hl' hlo.1 hlo.2 (by omega) (by omega))
  obtain ⟨a, c, rfl, _, _⟩ := hv.form
  obtain ⟨am, cm, rfl, _, _⟩ := hu.form
  have HACC := Lib.hid (HACC0.out a s.vals.length c)
  clear HACC0
  have HF : Hid (∀ w' a' c', Ext w w' → RF V 6 valE w' (.slice a' m.vals.length c') m.vals → RetTV V w (accS s m (0), 1) (.returned (.tuple #[.agg #[.int .i64 s.pub, .int .i64 s.rev, .bool true, .int .i64 m.state, .int .i64 m.seq, .int .i64 m.ttl, .int .i64 (raiseS s.lost (0)), .bool m.test, .slice a' m.vals.length c'], .int .i64 1])) w') := fun w' a' c' he hr => ⟨a', c', rfl, he, hr⟩
  obtain ⟨r7, hr7⟩ : ∃ r7, raiseS s.lost (0) = r7 := ⟨_, rfl⟩
  rw [hr7] at HF
  have HR7 := Lib.hid hr7
  clear hr7
  generalize hss : RetTV V w (accS s m (0), 1) = R at *
  clear hss hv hu hl' hlo hV 
  obtain ⟨s1, s2, s3, s4, s5, s6, s7, s8, vs⟩ := s
  obtain ⟨m1, m2, m3, m4, m5, m6, m7, m8, m9, vm⟩ := m
  simp only at *
  have hp : (m1 != s1) = false := by simpa using hpub
  have hr : (m9 != s2) = false := by simpa using hrev
  clear hpub hrev
  subst hkn
  generalize hn : vs.length = n at *
  have HNN := Lib.hid hn
  generalize hnm : vm.length = nm at *
  have HNM := Lib.hid hnm
  clear hn hnm
  go_enter Try.func36, Try.ntmps36
  go_wp2_with fail
  have X0 : Ext w (((w.alloc (.cells #[.int .i64 s1, .int .i64 s2, .bool false, .int .i64 s4, .int .i64 s5, .int .i64 s6, .int .i64 s7, .bool s8, .slice a n c] 67)).alloc (.cells #[.int .i64 m1, .int .i64 m2, .int .i64 m3, .int .i64 m4, .int .i64 m5, .int .i64 m6, .int .i64 m7, .bool m8, .int .i64 m9, .slice am nm cm] 58)).alloc (.cells #[.int .i64 0, .int .i64 0, .bool false, .int .i64 0, .int .i64 0, .int .i64 0, .int .i64 0, .bool false, .slice none 0 0] 67)) := (((Ext.refl w).alloc _).alloc _).alloc _
  have BS := Lib.hid (((Bk.new w #[.int .i64 s1, .int .i64 s2, .bool false, .int .i64 s4, .int .i64 s5, .int .i64 s6, .int .i64 s7, .bool s8, .slice a n c] 67 w.heap.size rfl).alloc (.cells #[.int .i64 m1, .int .i64 m2, .int .i64 m3, .int .i64 m4, .int .i64 m5, .int .i64 m6, .int .i64 m7, .bool m8, .int .i64 m9, .slice am nm cm] 58)).alloc (.cells #[.int .i64 0, .int .i64 0, .bool false, .int .i64 0, .int .i64 0, .int .i64 0, .int .i64 0, .bool false, .slice none 0 0] 67))
  have BM := Lib.hid ((Bk.new (w.alloc (.cells #[.int .i64 s1, .int .i64 s2, .bool false, .int .i64 s4, .int .i64 s5, .int .i64 s6, .int .i64 s7, .bool s8, .slice a n c] 67)) #[.int .i64 m1, .int .i64 m2, .int .i64 m3, .int .i64 m4, .int .i64 m5, .int .i64 m6, .int .i64 m7, .bool m8, .int .i64 m9, .slice am nm cm] 58 (w.heap.size + 1) (by simp)).alloc (.cells #[.int .i64 0, .int .i64 0, .bool false, .int .i64 0, .int .i64 0, .int .i64 0, .int .i64 0, .bool false, .slice none 0 0] 67))
  have BR := Lib.hid (Bk.new ((w.alloc (.cells #[.int .i64 s1, .int .i64 s2, .bool false, .int .i64 s4, .int .i64 s5, .int .i64 s6, .int .i64 s7, .bool s8, .slice a n c] 67)).alloc (.cells #[.int .i64 m1, .int .i64 m2, .int .i64 m3, .int .i64 m4, .int .i64 m5, .int .i64 m6, .int .i64 m7, .bool m8, .int .i64 m9, .slice am nm cm] 58)) #[.int .i64 0, .int .i64 0, .bool false, .int .i64 0, .int .i64 0, .int .i64 0, .int .i64 0, .bool false, .slice none 0 0] 67 (w.heap.size + 1 + 1) (by simp))
  refine (HCK.out _ X0).mono ?_
  generalize ((w.alloc (.cells #[.int .i64 s1, .int .i64 s2, .bool false, .int .i64 s4, .int .i64 s5, .int .i64 s6, .int .i64 s7, .bool s8, .slice a n c] 67)).alloc (.cells #[.int .i64 m1, .int .i64 m2, .int .i64 m3, .int .i64 m4, .int .i64 m5, .int .i64 m6, .int .i64 m7, .bool m8, .int .i64 m9, .slice am nm cm] 58)).alloc (.cells #[.int .i64 0, .int .i64 0, .bool false, .int .i64 0, .int .i64 0, .int .i64 0, .int .i64 0, .bool false, .slice none 0 0] 67) = W at *
  rintro e w1 ⟨rfl, x1⟩
  have BS1 := Lib.hid (BS.out.ext x1)
  have BM1 := Lib.hid (BM.out.ext x1)
  have BR1 := Lib.hid (BR.out.ext x1)
  have X1 := X0.trans x1
  have qs := BS1.out.cell
  have qm := BM1.out.cell
  clear BS BM BR HCK
  go_wp2_with fail
  have XX := X1
  have BSX := BS1
  have BMX := BM1
  have BRX := BR1
  obtain ⟨wX, hwX⟩ : ∃ wX, wX = w1 := ⟨_, rfl⟩
  subst hwX
  refine (HACC.out _ XX).mono ?_
  rintro e w3 ⟨a3, c3, he, x3, r3⟩
  simp only [accS, HR7.out, HNM.out] at he r3
  subst he
  have BR3 := Lib.hid (BRX.out.ext x3)
  clear qs qm
  have q3 := BR3.out.cell
  have f3 := BR3.out.frozen
  go_wp2_with fail
  change bodyPost _ _ _ _ _ (put w3 (w.heap.size + 1 + 1) 0 [.int .i64 s1, .int .i64 s2, .bool true, .int .i64 m6, .int .i64 m7, .int .i64 m2, .int .i64 r7, .bool m8, .slice a3 nm c3])
  have C4 := put_all (vs := [.int .i64 s1, .int .i64 s2, .bool true, .int .i64 m6, .int .i64 m7, .int .i64 m2, .int .i64 r7, .bool m8, .slice a3 nm c3]) BR3.out rfl
  have X4 := put_ext (a := w) (show w.heap.size ≤ w.heap.size + 1 + 1 by omega) [.int .i64 s1, .int .i64 s2, .bool true, .int .i64 m6, .int .i64 m7, .int .i64 m2, .int .i64 r7, .bool m8, .slice a3 nm c3] 0 _ (XX.trans x3)
  have R4 := HOV.out _ _ _ XX (r3.agree (agree_put (V := Old wX) (B := w.heap.size + 1 + 1) BRX.out.lt [.int .i64 s1, .int .i64 s2, .bool true, .int .i64 m6, .int .i64 m7, .int .i64 m2, .int .i64 r7, .bool m8, .slice a3 nm c3] 0 w3))
  generalize put w3 (w.heap.size + 1 + 1) 0 [.int .i64 s1, .int .i64 s2, .bool true, .int .i64 m6, .int .i64 m7, .int .i64 m2, .int .i64 r7, .bool m8, .slice a3 nm c3] = w4 at *
  have c4 := C4.cell
  exact bodyPost_ret (v := .tuple #[.agg #[.int .i64 s1, .int .i64 s2, .bool true, .int .i64 m6, .int .i64 m7, .int .i64 m2, .int .i64 r7, .bool m8, .slice a3 nm c3], .int .i64 1]) (by simp [results, Try.results36, go_sem, c4]) rfl (HF.out _ _ _ X4 R4)
set_option maxRecDepth 100000 in
set_option maxHeartbeats 8000000 in
theorem takeR_restart {V : Nat → Prop} (s : SSt) (m : Msg) (v u : Value) (w : World) (hv : RF V 6 valE w v s.vals) (hu : RF Any 6 valE w u m.vals) (hV : ∀ g, V g → g < w.heap.size) (hl' : m.vals.length ≤ 1000000000) (hlo : 0 ≤ s.lost ∧ s.lost ≤ 1000000) (hsq : in33 s.state ∧ in33 s.seq ∧ in33 m.state ∧ in33 m.seq) (hck : chkM m = 0) (hpub : m.pub = s.pub) (hrev : m.rev = s.rev) (hkn : s.known = true) (hlf : s.left < 1) :
    Calls Try.prog 36 #[subA s v, msgA m u] w (RetTV V w (accS s m (0), 5)) := by
  have HCK := Lib.hid (fun w1 (he : Ext w w1) => checkMR_any m u w1 (hu.ext he))
  rw [hck] at HCK
  clear hck
  have HOV : Hid (∀ (wa wb : World) (u' : Value), Ext w wa → RF (Old wa) 6 valE wb u' m.vals → RF V 6 valE wb u' m.vals) := fun wa wb u' he h => h.weak (by omega) (fun g _ hg => he.lt (hV g hg))
  have HACC0 := Lib.hid (fun (a : Option Addr) (n c : Nat) w1 (he : Ext w w1) => acceptR_any s m a n c u (0) w1 (hu.ext he) hl' hlo.1 hlo.2 (by omega) (by omega))
  obtain ⟨a, c, rfl, _, _⟩ := hv.form
  obtain ⟨am, cm, rfl, _, _⟩ := hu.form
  have HACC := Lib.hid (HACC0.out a s.vals.length c)
  clear HACC0
  have HF : Hid (∀ w' a' c', Ext w w' → RF V 6 valE w' (.slice a' m.vals.length c') m.vals → RetTV V w (accS s m (0), 5) (.returned (.tuple #[.agg #[.int .i64 s.pub, .int .i64 s.rev, .bool true, .int .i64 m.state, .int .i64 m.seq, .int .i64 m.ttl, .int .i64 (raiseS s.lost (0)), .bool m.test, .slice a' m.vals.length c'], .int .i64 5])) w') := fun w' a' c' he hr => ⟨a', c', rfl, he, hr⟩
  obtain ⟨r7, hr7⟩ : ∃ r7, raiseS s.lost (0) = r7 := ⟨_, rfl⟩
  rw [hr7] at HF
  have HR7 := Lib.hid hr7
  clear hr7
  generalize hss : RetTV V w (accS s m (0), 5) = R at *
  have HSQ := Lib.hid hsq
  clear hss hv hu hl' hlo hV hsq
  obtain ⟨s1, s2, s3, s4, s5, s6, s7, s8, vs⟩ := s
  obtain ⟨m1, m2, m3, m4, m5, m6, m7, m8, m9, vm⟩ := m
  simp only at *
  have hp : (m1 != s1) = false := by simpa using hpub
  have hr : (m9 != s2) = false := by simpa using hrev
  clear hpub hrev
  subst hkn
  have hle : decide (s6 < 1) = true := by simpa using hlf
  clear hlf
  generalize hn : vs.length = n at *
  have HNN := Lib.hid hn
  generalize hnm : vm.length = nm at *
  have HNM := Lib.hid hnm
  clear hn hnm
  go_enter Try.func36, Try.ntmps36
  go_wp2_with fail
  have X0 : Ext w (((w.alloc (.cells #[.int .i64 s1, .int .i64 s2, .bool true, .int .i64 s4, .int .i64 s5, .int .i64 s6, .int .i64 s7, .bool s8, .slice a n c] 67)).alloc (.cells #[.int .i64 m1, .int .i64 m2, .int .i64 m3, .int .i64 m4, .int .i64 m5, .int .i64 m6, .int .i64 m7, .bool m8, .int .i64 m9, .slice am nm cm] 58)).alloc (.cells #[.int .i64 0, .int .i64 0, .bool false, .int .i64 0, .int .i64 0, .int .i64 0, .int .i64 0, .bool false, .slice none 0 0] 67)) := (((Ext.refl w).alloc _).alloc _).alloc _
  have BS := Lib.hid (((Bk.new w #[.int .i64 s1, .int .i64 s2, .bool true, .int .i64 s4, .int .i64 s5, .int .i64 s6, .int .i64 s7, .bool s8, .slice a n c] 67 w.heap.size rfl).alloc (.cells #[.int .i64 m1, .int .i64 m2, .int .i64 m3, .int .i64 m4, .int .i64 m5, .int .i64 m6, .int .i64 m7, .bool m8, .int .i64 m9, .slice am nm cm] 58)).alloc (.cells #[.int .i64 0, .int .i64 0, .bool false, .int .i64 0, .int .i64 0, .int .i64 0, .int .i64 0, .bool false, .slice none 0 0] 67))
  have BM := Lib.hid ((Bk.new (w.alloc (.cells #[.int .i64 s1, .int .i64 s2, .bool true, .int .i64 s4, .int .i64 s5, .int .i64 s6, .int .i64 s7, .bool s8, .slice a n c] 67)) #[.int .i64 m1, .int .i64 m2, .int .i64 m3, .int .i64 m4, .int .i64 m5, .int .i64 m6, .int .i64 m7, .bool m8, .int .i64 m9, .slice am nm cm] 58 (w.heap.size + 1) (by simp)).alloc (.cells #[.int .i64 0, .int .i64 0, .bool false, .int .i64 0, .int .i64 0, .int .i64 0, .int .i64 0, .bool false, .slice none 0 0] 67))
  have BR := Lib.hid (Bk.new ((w.alloc (.cells #[.int .i64 s1, .int .i64 s2, .bool true, .int .i64 s4, .int .i64 s5, .int .i64 s6, .int .i64 s7, .bool s8, .slice a n c] 67)).alloc (.cells #[.int .i64 m1, .int .i64 m2, .int .i64 m3, .int .i64 m4, .int .i64 m5, .int .i64 m6, .int .i64 m7, .bool m8, .int .i64 m9, .slice am nm cm] 58)) #[.int .i64 0, .int .i64 0, .bool false, .int .i64 0, .int .i64 0, .int .i64 0, .int .i64 0, .bool false, .slice none 0 0] 67 (w.heap.size + 1 + 1) (by simp))
  refine (HCK.out _ X0).mono ?_
  generalize ((w.alloc (.cells #[.int .i64 s1, .int .i64 s2, .bool true, .int .i64 s4, .int .i64 s5, .int .i64 s6, .int .i64 s7, .bool s8, .slice a n c] 67)).alloc (.cells #[.int .i64 m1, .int .i64 m2, .int .i64 m3, .int .i64 m4, .int .i64 m5, .int .i64 m6, .int .i64 m7, .bool m8, .int .i64 m9, .slice am nm cm] 58)).alloc (.cells #[.int .i64 0, .int .i64 0, .bool false, .int .i64 0, .int .i64 0, .int .i64 0, .int .i64 0, .bool false, .slice none 0 0] 67) = W at *
  rintro e w1 ⟨rfl, x1⟩
  have BS1 := Lib.hid (BS.out.ext x1)
  have BM1 := Lib.hid (BM.out.ext x1)
  have BR1 := Lib.hid (BR.out.ext x1)
  have X1 := X0.trans x1
  have qs := BS1.out.cell
  have qm := BM1.out.cell
  clear BS BM BR HCK
  go_wp2_with fail
  have XX := X1
  have BSX := BS1
  have BMX := BM1
  have BRX := BR1
  obtain ⟨wX, hwX⟩ : ∃ wX, wX = w1 := ⟨_, rfl⟩
  subst hwX
  refine (HACC.out _ XX).mono ?_
  rintro e w3 ⟨a3, c3, he, x3, r3⟩
  simp only [accS, HR7.out, HNM.out] at he r3
  subst he
  have BR3 := Lib.hid (BRX.out.ext x3)
  clear qs qm
  have q3 := BR3.out.cell
  have f3 := BR3.out.frozen
  go_wp2_with fail
  change bodyPost _ _ _ _ _ (put w3 (w.heap.size + 1 + 1) 0 [.int .i64 s1, .int .i64 s2, .bool true, .int .i64 m6, .int .i64 m7, .int .i64 m2, .int .i64 r7, .bool m8, .slice a3 nm c3])
  have C4 := put_all (vs := [.int .i64 s1, .int .i64 s2, .bool true, .int .i64 m6, .int .i64 m7, .int .i64 m2, .int .i64 r7, .bool m8, .slice a3 nm c3]) BR3.out rfl
  have X4 := put_ext (a := w) (show w.heap.size ≤ w.heap.size + 1 + 1 by omega) [.int .i64 s1, .int .i64 s2, .bool true, .int .i64 m6, .int .i64 m7, .int .i64 m2, .int .i64 r7, .bool m8, .slice a3 nm c3] 0 _ (XX.trans x3)
  have R4 := HOV.out _ _ _ XX (r3.agree (agree_put (V := Old wX) (B := w.heap.size + 1 + 1) BRX.out.lt [.int .i64 s1, .int .i64 s2, .bool true, .int .i64 m6, .int .i64 m7, .int .i64 m2, .int .i64 r7, .bool m8, .slice a3 nm c3] 0 w3))
  generalize put w3 (w.heap.size + 1 + 1) 0 [.int .i64 s1, .int .i64 s2, .bool true, .int .i64 m6, .int .i64 m7, .int .i64 m2, .int .i64 r7, .bool m8, .slice a3 nm c3] = w4 at *
  have c4 := C4.cell
  exact bodyPost_ret (v := .tuple #[.agg #[.int .i64 s1, .int .i64 s2, .bool true, .int .i64 m6, .int .i64 m7, .int .i64 m2, .int .i64 r7, .bool m8, .slice a3 nm c3], .int .i64 5]) (by simp [results, Try.results36, go_sem, c4]) rfl (HF.out _ _ _ X4 R4)
set_option maxRecDepth 100000 in
set_option maxHeartbeats 8000000 in
theorem takeR_old1 {V : Nat → Prop} (s : SSt) (m : Msg) (v u : Value) (w : World) (hv : RF V 6 valE w v s.vals) (hu : RF Any 6 valE w u m.vals) (hsq : in33 s.state ∧ in33 s.seq ∧ in33 m.state ∧ in33 m.seq) (hck : chkM m = 0) (hpub : m.pub = s.pub) (hrev : m.rev = s.rev) (hkn : s.known = true) (hlf : ¬ s.left < 1) (hst : m.state = s.state) (hnb : newB s.seq m.seq = false) :
    Calls Try.prog 36 #[subA s v, msgA m u] w (RetTV V w (s, 4)) := by
  have HCK := Lib.hid (fun w1 (he : Ext w w1) => checkMR_any m u w1 (hu.ext he))
  rw [hck] at HCK
  clear hck
  have HNW := Lib.hid (fun w1 => newerR_any s.seq m.seq w1 hsq.2.1 hsq.2.2.2)
  have HVV : Hid (∀ w3 w4, Ext w w3 → Agree (fun g => w.heap.size ≤ g) w3 w4 → RF V 6 valE w4 v s.vals) := fun w3 w4 he ha => (((hv.weak (by omega) (V' := fun g => V g ∨ w.heap.size ≤ g) (fun g hg h => h.elim id (fun h => absurd h (by omega)))).ext he).agree (ha.mono fun g hg => .inr hg)).weak (by omega) (fun g _ hg => .inl hg)
  obtain ⟨a, c, rfl, _, _⟩ := hv.form
  obtain ⟨am, cm, rfl, _, _⟩ := hu.form
  have HF : Hid (∀ w', Ext w w' → RF V 6 valE w' (.slice a s.vals.length c) s.vals → RetTV V w (s, 4) (.returned (.tuple #[subA s (.slice a s.vals.length c), .int .i64 4])) w') := fun w' he hr => ⟨a, c, rfl, he, hr⟩
  generalize hss : RetTV V w (s, 4) = R at *
  have HSQ := Lib.hid hsq
  clear hss hv hu hsq
  obtain ⟨s1, s2, s3, s4, s5, s6, s7, s8, vs⟩ := s
  obtain ⟨m1, m2, m3, m4, m5, m6, m7, m8, m9, vm⟩ := m
  simp only at *
  have hp : (m1 != s1) = false := by simpa using hpub
  have hr : (m9 != s2) = false := by simpa using hrev
  clear hpub hrev
  subst hkn
  have hle : decide (s6 < 1) = false := by simpa using hlf
  clear hlf
  have hse : (m6 == s4) = true := by simpa using hst
  clear hst
  rw [hnb] at HNW
  clear hnb
  generalize hn : vs.length = n at *
  have HNN := Lib.hid hn
  generalize hnm : vm.length = nm at *
  have HNM := Lib.hid hnm
  clear hn hnm
  go_enter Try.func36, Try.ntmps36
  go_wp2_with fail
  have X0 : Ext w (((w.alloc (.cells #[.int .i64 s1, .int .i64 s2, .bool true, .int .i64 s4, .int .i64 s5, .int .i64 s6, .int .i64 s7, .bool s8, .slice a n c] 67)).alloc (.cells #[.int .i64 m1, .int .i64 m2, .int .i64 m3, .int .i64 m4, .int .i64 m5, .int .i64 m6, .int .i64 m7, .bool m8, .int .i64 m9, .slice am nm cm] 58)).alloc (.cells #[.int .i64 0, .int .i64 0, .bool false, .int .i64 0, .int .i64 0, .int .i64 0, .int .i64 0, .bool false, .slice none 0 0] 67)) := (((Ext.refl w).alloc _).alloc _).alloc _
  have BS := Lib.hid (((Bk.new w #[.int .i64 s1, .int .i64 s2, .bool true, .int .i64 s4, .int .i64 s5, .int .i64 s6, .int .i64 s7, .bool s8, .slice a n c] 67 w.heap.size rfl).alloc (.cells #[.int .i64 m1, .int .i64 m2, .int .i64 m3, .int .i64 m4, .int .i64 m5, .int .i64 m6, .int .i64 m7, .bool m8, .int .i64 m9, .slice am nm cm] 58)).alloc (.cells #[.int .i64 0, .int .i64 0, .bool false, .int .i64 0, .int .i64 0, .int .i64 0, .int .i64 0, .bool false, .slice none 0 0] 67))
  have BM := Lib.hid ((Bk.new (w.alloc (.cells #[.int .i64 s1, .int .i64 s2, .bool true, .int .i64 s4, .int .i64 s5, .int .i64 s6, .int .i64 s7, .bool s8, .slice a n c] 67)) #[.int .i64 m1, .int .i64 m2, .int .i64 m3, .int .i64 m4, .int .i64 m5, .int .i64 m6, .int .i64 m7, .bool m8, .int .i64 m9, .slice am nm cm] 58 (w.heap.size + 1) (by simp)).alloc (.cells #[.int .i64 0, .int .i64 0, .bool false, .int .i64 0, .int .i64 0, .int .i64 0, .int .i64 0, .bool false, .slice none 0 0] 67))
  have BR := Lib.hid (Bk.new ((w.alloc (.cells #[.int .i64 s1, .int .i64 s2, .bool true, .int .i64 s4, .int .i64 s5, .int .i64 s6, .int .i64 s7, .bool s8, .slice a n c] 67)).alloc (.cells #[.int .i64 m1, .int .i64 m2, .int .i64 m3, .int .i64 m4, .int .i64 m5, .int .i64 m6, .int .i64 m7, .bool m8, .int .i64 m9, .slice am nm cm] 58)) #[.int .i64 0, .int .i64 0, .bool false, .int .i64 0, .int .i64 0, .int .i64 0, .int .i64 0, .bool false, .slice none 0 0] 67 (w.heap.size + 1 + 1) (by simp))
  refine (HCK.out _ X0).mono ?_
  generalize ((w.alloc (.cells #[.int .i64 s1, .int .i64 s2, .bool true, .int .i64 s4, .int .i64 s5, .int .i64 s6, .int .i64 s7, .bool s8, .slice a n c] 67)).alloc (.cells #[.int .i64 m1, .int .i64 m2, .int .i64 m3, .int .i64 m4, .int .i64 m5, .int .i64 m6, .int .i64 m7, .bool m8, .int .i64 m9, .slice am nm cm] 58)).alloc (.cells #[.int .i64 0, .int .i64 0, .bool false, .int .i64 0, .int .i64 0, .int .i64 0, .int .i64 0, .bool false, .slice none 0 0] 67) = W at *
  rintro e w1 ⟨rfl, x1⟩
  have BS1 := Lib.hid (BS.out.ext x1)
  have BM1 := Lib.hid (BM.out.ext x1)
  have BR1 := Lib.hid (BR.out.ext x1)
  have X1 := X0.trans x1
  have qs := BS1.out.cell
  have qm := BM1.out.cell
  clear BS BM BR HCK
  go_wp2_with fail
  refine (HNW.out _).mono ?_
  rintro e w2 ⟨rfl, rfl⟩
  have XX := X1
  have BSX := BS1
  have BMX := BM1
  have BRX := BR1
  obtain ⟨wX, hwX⟩ : ∃ wX, wX = w1 := ⟨_, rfl⟩
  subst hwX
  have f3 := BRX.out.frozen
  have q3 := BRX.out.cell
  go_wp2_with fail
  change bodyPost _ _ _ _ _ (put wX (w.heap.size + 1 + 1) 0 [.int .i64 s1, .int .i64 s2, .bool true, .int .i64 s4, .int .i64 s5, .int .i64 s6, .int .i64 s7, .bool s8, .slice a n c])
  have C4 := put_all (vs := [.int .i64 s1, .int .i64 s2, .bool true, .int .i64 s4, .int .i64 s5, .int .i64 s6, .int .i64 s7, .bool s8, .slice a n c]) BRX.out rfl
  have X4 := put_ext (a := w) (show w.heap.size ≤ w.heap.size + 1 + 1 by omega) [.int .i64 s1, .int .i64 s2, .bool true, .int .i64 s4, .int .i64 s5, .int .i64 s6, .int .i64 s7, .bool s8, .slice a n c] 0 _ XX
  have R4 := HVV.out _ _ XX (agree_put (V := fun g => w.heap.size ≤ g) (B := w.heap.size + 1 + 1) (show w.heap.size ≤ w.heap.size + 1 + 1 by omega) [.int .i64 s1, .int .i64 s2, .bool true, .int .i64 s4, .int .i64 s5, .int .i64 s6, .int .i64 s7, .bool s8, .slice a n c] 0 wX)
  generalize put wX (w.heap.size + 1 + 1) 0 [.int .i64 s1, .int .i64 s2, .bool true, .int .i64 s4, .int .i64 s5, .int .i64 s6, .int .i64 s7, .bool s8, .slice a n c] = w4 at *
  have c4 := C4.cell
  exact bodyPost_ret (v := .tuple #[.agg #[.int .i64 s1, .int .i64 s2, .bool true, .int .i64 s4, .int .i64 s5, .int .i64 s6, .int .i64 s7, .bool s8, .slice a n c], .int .i64 4]) (by simp [results, Try.results36, go_sem, c4]) rfl (HF.out _ X4 R4)
set_option maxRecDepth 100000 in
set_option maxHeartbeats 8000000 in
theorem takeR_old2a {V : Nat → Prop} (s : SSt) (m : Msg) (v u : Value) (w : World) (hv : RF V 6 valE w v s.vals) (hu : RF Any 6 valE w u m.vals) (hsq : in33 s.state ∧ in33 s.seq ∧ in33 m.state ∧ in33 m.seq) (hck : chkM m = 0) (hpub : m.pub = s.pub) (hrev : m.rev = s.rev) (hkn : s.known = true) (hlf : ¬ s.left < 1) (hst : m.state = s.state) (hnb : newB s.seq m.seq = true) (hte : s.test = true) (htm : m.test = false) :
    Calls Try.prog 36 #[subA s v, msgA m u] w (RetTV V w (s, 4)) := by
  have HCK := Lib.hid (fun w1 (he : Ext w w1) => checkMR_any m u w1 (hu.ext he))
  rw [hck] at HCK
  clear hck
  have HNW := Lib.hid (fun w1 => newerR_any s.seq m.seq w1 hsq.2.1 hsq.2.2.2)
  have HVV : Hid (∀ w3 w4, Ext w w3 → Agree (fun g => w.heap.size ≤ g) w3 w4 → RF V 6 valE w4 v s.vals) := fun w3 w4 he ha => (((hv.weak (by omega) (V' := fun g => V g ∨ w.heap.size ≤ g) (fun g hg h => h.elim id (fun h => absurd h (by omega)))).ext he).agree (ha.mono fun g hg => .inr hg)).weak (by omega) (fun g _ hg => .inl hg)
  obtain ⟨a, c, rfl, _, _⟩ := hv.form
  obtain ⟨am, cm, rfl, _, _⟩ := hu.form
  have HF : Hid (∀ w', Ext w w' → RF V 6 valE w' (.slice a s.vals.length c) s.vals → RetTV V w (s, 4) (.returned (.tuple #[subA s (.slice a s.vals.length c), .int .i64 4])) w') := fun w' he hr => ⟨a, c, rfl, he, hr⟩
  generalize hss : RetTV V w (s, 4) = R at *
  have HSQ := Lib.hid hsq
  clear hss hv hu hsq
  obtain ⟨s1, s2, s3, s4, s5, s6, s7, s8, vs⟩ := s
  obtain ⟨m1, m2, m3, m4, m5, m6, m7, m8, m9, vm⟩ := m
  simp only at *
  have hp : (m1 != s1) = false := by simpa using hpub
  have hr : (m9 != s2) = false := by simpa using hrev
  clear hpub hrev
  subst hkn
  have hle : decide (s6 < 1) = false := by simpa using hlf
  clear hlf
  have hse : (m6 == s4) = true := by simpa using hst
  clear hst
  rw [hnb] at HNW
  clear hnb
  subst hte htm
  generalize hn : vs.length = n at *
  have HNN := Lib.hid hn
  generalize hnm : vm.length = nm at *
  have HNM := Lib.hid hnm
  clear hn hnm
  go_enter Try.func36, Try.ntmps36
  go_wp2_with fail
  have X0 : Ext w (((w.alloc (.cells #[.int .i64 s1, .int .i64 s2, .bool true, .int .i64 s4, .int .i64 s5, .int .i64 s6, .int .i64 s7, .bool true, .slice a n c] 67)).alloc (.cells #[.int .i64 m1, .int .i64 m2, .int .i64 m3, .int .i64 m4, .int .i64 m5, .int .i64 m6, .int .i64 m7, .bool false, .int .i64 m9, .slice am nm cm] 58)).alloc (.cells #[.int .i64 0, .int .i64 0, .bool false, .int .i64 0, .int .i64 0, .int .i64 0, .int .i64 0, .bool false, .slice none 0 0] 67)) := (((Ext.refl w).alloc _).alloc _).alloc _
  have BS := Lib.hid (((Bk.new w #[.int .i64 s1, .int .i64 s2, .bool true, .int .i64 s4, .int .i64 s5, .int .i64 s6, .int .i64 s7, .bool true, .slice a n c] 67 w.heap.size rfl).alloc (.cells #[.int .i64 m1, .int .i64 m2, .int .i64 m3, .int .i64 m4, .int .i64 m5, .int .i64 m6, .int .i64 m7, .bool false, .int .i64 m9, .slice am nm cm] 58)).alloc (.cells #[.int .i64 0, .int .i64 0, .bool false, .int .i64 0, .int .i64 0, .int .i64 0, .int .i64 0, .bool false, .slice none 0 0] 67))
  have BM := Lib.hid ((Bk.new (w.alloc (.cells #[.int .i64 s1, .int .i64 s2, .bool true, .int .i64 s4, .int .i64 s5, .int .i64 s6, .int .i64 s7, .bool true, .slice a n c] 67)) #[.int .i64 m1, .int .i64 m2, .int .i64 m3, .int .i64 m4, .int .i64 m5, .int .i64 m6, .int .i64 m7, .bool false, .int .i64 m9, .slice am nm cm] 58 (w.heap.size + 1) (by simp)).alloc (.cells #[.int .i64 0, .int .i64 0, .bool false, .int .i64 0, .int .i64 0, .int .i64 0, .int .i64 0, .bool false, .slice none 0 0] 67))
  have BR := Lib.hid (Bk.new ((w.alloc (.cells #[.int .i64 s1, .int .i64 s2, .bool true, .int .i64 s4, .int .i64 s5, .int .i64 s6, .int .i64 s7, .bool true, .slice a n c] 67)).alloc (.cells #[.int .i64 m1, .int .i64 m2, .int .i64 m3, .int .i64 m4, .int .i64 m5, .int .i64 m6, .int .i64 m7, .bool false, .int .i64 m9, .slice am nm cm] 58)) #[.int .i64 0, .int .i64 0, .bool false, .int .i64 0, .int .i64 0, .int .i64 0, .int .i64 0, .bool false, .slice none 0 0] 67 (w.heap.size + 1 + 1) (by simp))
  refine (HCK.out _ X0).mono ?_
  generalize ((w.alloc (.cells #[.int .i64 s1, .int .i64 s2, .bool true, .int .i64 s4, .int .i64 s5, .int .i64 s6, .int .i64 s7, .bool true, .slice a n c] 67)).alloc (.cells #[.int .i64 m1, .int .i64 m2, .int .i64 m3, .int .i64 m4, .int .i64 m5, .int .i64 m6, .int .i64 m7, .bool false, .int .i64 m9, .slice am nm cm] 58)).alloc (.cells #[.int .i64 0, .int .i64 0, .bool false, .int .i64 0, .int .i64 0, .int .i64 0, .int .i64 0, .bool false, .slice none 0 0] 67) = W at *
  rintro e w1 ⟨rfl, x1⟩
  have BS1 := Lib.hid (BS.out.ext x1)
  have BM1 := Lib.hid (BM.out.ext x1)
  have BR1 := Lib.hid (BR.out.ext x1)
  have X1 := X0.trans x1
  have qs := BS1.out.cell
  have qm := BM1.out.cell
  clear BS BM BR HCK
  go_wp2_with fail
  refine (HNW.out _).mono ?_
  rintro e w2 ⟨rfl, rfl⟩
  have XX := X1
  have BSX := BS1
  have BMX := BM1
  have BRX := BR1
  obtain ⟨wX, hwX⟩ : ∃ wX, wX = w1 := ⟨_, rfl⟩
  subst hwX
  have f3 := BRX.out.frozen
  have q3 := BRX.out.cell
  go_wp2_with fail
  change bodyPost _ _ _ _ _ (put wX (w.heap.size + 1 + 1) 0 [.int .i64 s1, .int .i64 s2, .bool true, .int .i64 s4, .int .i64 s5, .int .i64 s6, .int .i64 s7, .bool true, .slice a n c])
  have C4 := put_all (vs := [.int .i64 s1, .int .i64 s2, .bool true, .int .i64 s4, .int .i64 s5, .int .i64 s6, .int .i64 s7, .bool true, .slice a n c]) BRX.out rfl
  have X4 := put_ext (a := w) (show w.heap.size ≤ w.heap.size + 1 + 1 by omega) [.int .i64 s1, .int .i64 s2, .bool true, .int .i64 s4, .int .i64 s5, .int .i64 s6, .int .i64 s7, .bool true, .slice a n c] 0 _ XX
  have R4 := HVV.out _ _ XX (agree_put (V := fun g => w.heap.size ≤ g) (B := w.heap.size + 1 + 1) (show w.heap.size ≤ w.heap.size + 1 + 1 by omega) [.int .i64 s1, .int .i64 s2, .bool true, .int .i64 s4, .int .i64 s5, .int .i64 s6, .int .i64 s7, .bool true, .slice a n c] 0 wX)
  generalize put wX (w.heap.size + 1 + 1) 0 [.int .i64 s1, .int .i64 s2, .bool true, .int .i64 s4, .int .i64 s5, .int .i64 s6, .int .i64 s7, .bool true, .slice a n c] = w4 at *
  have c4 := C4.cell
  exact bodyPost_ret (v := .tuple #[.agg #[.int .i64 s1, .int .i64 s2, .bool true, .int .i64 s4, .int .i64 s5, .int .i64 s6, .int .i64 s7, .bool true, .slice a n c], .int .i64 4]) (by simp [results, Try.results36, go_sem, c4]) rfl (HF.out _ X4 R4)
set_option maxRecDepth 100000 in
set_option maxHeartbeats 8000000 in
theorem takeR_old2b {V : Nat → Prop} (s : SSt) (m : Msg) (v u : Value) (w : World) (hv : RF V 6 valE w v s.vals) (hu : RF Any 6 valE w u m.vals) (hsq : in33 s.state ∧ in33 s.seq ∧ in33 m.state ∧ in33 m.seq) (hck : chkM m = 0) (hpub : m.pub = s.pub) (hrev : m.rev = s.rev) (hkn : s.known = true) (hlf : ¬ s.left < 1) (hst : m.state = s.state) (hnb : newB s.seq m.seq = true) (hte : s.test = false) (htm : m.test = true) :
    Calls Try.prog 36 #[subA s v, msgA m u] w (RetTV V w (s, 4)) := by
  have HCK := Lib.hid (fun w1 (he : Ext w w1) => checkMR_any m u w1 (hu.ext he))
  rw [hck] at HCK
  clear hck
  have HNW := Lib.hid (fun w1 => newerR_any s.seq m.seq w1 hsq.2.1 hsq.2.2.2)
  have HVV : Hid (∀ w3 w4, Ext w w3 → Agree (fun g => w.heap.size ≤ g) w3 w4 → RF V 6 valE w4 v s.vals) := fun w3 w4 he ha => (((hv.weak (by omega) (V' := fun g => V g ∨ w.heap.size ≤ g) (fun g hg h => h.elim id (fun h => absurd h (by omega)))).ext he).agree (ha.mono fun g hg => .inr hg)).weak (by omega) (fun g _ hg => .inl hg)
  obtain ⟨a, c, rfl, _, _⟩ := hv.form
  obtain ⟨am, cm, rfl, _, _⟩ := hu.form
  have HF : Hid (∀ w', Ext w w' → RF V 6 valE w' (.slice a s.vals.length c) s.vals → RetTV V w (s, 4) (.returned (.tuple #[subA s (.slice a s.vals.length c), .int .i64 4])) w') := fun w' he hr => ⟨a, c, rfl, he, hr⟩
  generalize hss : RetTV V w (s, 4) = R at *
  have HSQ := Lib.hid hsq
  clear hss hv hu hsq
  obtain ⟨s1, s2, s3, s4, s5, s6, s7, s8, vs⟩ := s
  obtain ⟨m1, m2, m3, m4, m5, m6, m7, m8, m9, vm⟩ := m
  simp only at *
  have hp : (m1 != s1) = false := by simpa using hpub
  have hr : (m9 != s2) = false := by simpa using hrev
  clear hpub hrev
  subst hkn
  have hle : decide (s6 < 1) = false := by simpa using hlf
  clear hlf
  have hse : (m6 == s4) = true := by simpa using hst
  clear hst
  rw [hnb] at HNW
  clear hnb
  subst hte htm
  generalize hn : vs.length = n at *
  have HNN := Lib.hid hn
  generalize hnm : vm.length = nm at *
  have HNM := Lib.hid hnm
  clear hn hnm
  go_enter Try.func36, Try.ntmps36
  go_wp2_with fail
  have X0 : Ext w (((w.alloc (.cells #[.int .i64 s1, .int .i64 s2, .bool true, .int .i64 s4, .int .i64 s5, .int .i64 s6, .int .i64 s7, .bool false, .slice a n c] 67)).alloc (.cells #[.int .i64 m1, .int .i64 m2, .int .i64 m3, .int .i64 m4, .int .i64 m5, .int .i64 m6, .int .i64 m7, .bool true, .int .i64 m9, .slice am nm cm] 58)).alloc (.cells #[.int .i64 0, .int .i64 0, .bool false, .int .i64 0, .int .i64 0, .int .i64 0, .int .i64 0, .bool false, .slice none 0 0] 67)) := (((Ext.refl w).alloc _).alloc _).alloc _
  have BS := Lib.hid (((Bk.new w #[.int .i64 s1, .int .i64 s2, .bool true, .int .i64 s4, .int .i64 s5, .int .i64 s6, .int .i64 s7, .bool false, .slice a n c] 67 w.heap.size rfl).alloc (.cells #[.int .i64 m1, .int .i64 m2, .int .i64 m3, .int .i64 m4, .int .i64 m5, .int .i64 m6, .int .i64 m7, .bool true, .int .i64 m9, .slice am nm cm] 58)).alloc (.cells #[.int .i64 0, .int .i64 0, .bool false, .int .i64 0, .int .i64 0, .int .i64 0, .int .i64 0, .bool false, .slice none 0 0] 67))
  have BM := Lib.hid ((Bk.new (w.alloc (.cells #[.int .i64 s1, .int .i64 s2, .bool true, .int .i64 s4, .int .i64 s5, .int .i64 s6, .int .i64 s7, .bool false, .slice a n c] 67)) #[.int .i64 m1, .int .i64 m2, .int .i64 m3, .int .i64 m4, .int .i64 m5, .int .i64 m6, .int .i64 m7, .bool true, .int .i64 m9, .slice am nm cm] 58 (w.heap.size + 1) (by simp)).alloc (.cells #[.int .i64 0, .int .i64 0, .bool false, .int .i64 0, .int .i64 0, .int .i64 0, .int .i64 0, .bool false, .slice none 0 0] 67))
  have BR := Lib.hid (Bk.new ((w.alloc (.cells #[.int .i64 s1, .int .i64 s2, .bool true, .int .i64 s4, .int .i64 s5, .int .i64 s6, .int .i64 s7, .bool false, .slice a n c] 67)).alloc (.cells #[.int .i64 m1, .int .i64 m2, .int .i64 m3, .int .i64 m4, .int .i64 m5, .int .i64 m6, .int .i64 m7, .bool true, .int .i64 m9, .slice am nm cm] 58)) #[.int .i64 0, .int .i64 0, .bool false, .int .i64 0, .int .i64 0, .int .i64 0, .int .i64 0, .bool false, .slice none 0 0] 67 (w.heap.size + 1 + 1) (by simp))
  refine (HCK.out _ X0).mono ?_
  generalize ((w.alloc (.cells #[.int .i64 s1, .int .i64 s2, .bool true, .int .i64 s4, .int .i64 s5, .int .i64 s6, .int .i64 s7, .bool false, .slice a n c] 67)).alloc (.cells #[.int .i64 m1, .int .i64 m2, .int .i64 m3, .int .i64 m4, .int .i64 m5, .int .i64 m6, .int .i64 m7, .bool true, .int .i64 m9, .slice am nm cm] 58)).alloc (.cells #[.int .i64 0, .int .i64 0, .bool false, .int .i64 0, .int .i64 0, .int .i64 0, .int .i64 0, .bool false, .slice none 0 0] 67) = W at *
  rintro e w1 ⟨rfl, x1⟩
  have BS1 := Lib.hid (BS.out.ext x1)
  have BM1 := Lib.hid (BM.out.ext x1)
  have BR1 := Lib.hid (BR.out.ext x1)
  have X1 := X0.trans x1
  have qs := BS1.out.cell
  have qm := BM1.out.cell
  clear BS BM BR HCK
  go_wp2_with fail
  refine (HNW.out _).mono ?_
  rintro e w2 ⟨rfl, rfl⟩
  have XX := X1
  have BSX := BS1
  have BMX := BM1
  have BRX := BR1
  obtain ⟨wX, hwX⟩ : ∃ wX, wX = w1 := ⟨_, rfl⟩
  subst hwX
  have f3 := BRX.out.frozen
  have q3 := BRX.out.cell
  go_wp2_with fail
  change bodyPost _ _ _ _ _ (put wX (w.heap.size + 1 + 1) 0 [.int .i64 s1, .int .i64 s2, .bool true, .int .i64 s4, .int .i64 s5, .int .i64 s6, .int .i64 s7, .bool false, .slice a n c])
  have C4 := put_all (vs := [.int .i64 s1, .int .i64 s2, .bool true, .int .i64 s4, .int .i64 s5, .int .i64 s6, .int .i64 s7, .bool false, .slice a n c]) BRX.out rfl
  have X4 := put_ext (a := w) (show w.heap.size ≤ w.heap.size + 1 + 1 by omega) [.int .i64 s1, .int .i64 s2, .bool true, .int .i64 s4, .int .i64 s5, .int .i64 s6, .int .i64 s7, .bool false, .slice a n c] 0 _ XX
  have R4 := HVV.out _ _ XX (agree_put (V := fun g => w.heap.size ≤ g) (B := w.heap.size + 1 + 1) (show w.heap.size ≤ w.heap.size + 1 + 1 by omega) [.int .i64 s1, .int .i64 s2, .bool true, .int .i64 s4, .int .i64 s5, .int .i64 s6, .int .i64 s7, .bool false, .slice a n c] 0 wX)
  generalize put wX (w.heap.size + 1 + 1) 0 [.int .i64 s1, .int .i64 s2, .bool true, .int .i64 s4, .int .i64 s5, .int .i64 s6, .int .i64 s7, .bool false, .slice a n c] = w4 at *
  have c4 := C4.cell
  exact bodyPost_ret (v := .tuple #[.agg #[.int .i64 s1, .int .i64 s2, .bool true, .int .i64 s4, .int .i64 s5, .int .i64 s6, .int .i64 s7, .bool false, .slice a n c], .int .i64 4]) (by simp [results, Try.results36, go_sem, c4]) rfl (HF.out _ X4 R4)
set_option maxRecDepth 100000 in
set_option maxHeartbeats 8000000 in
theorem takeR_old3 {V : Nat → Prop} (s : SSt) (m : Msg) (v u : Value) (w : World) (hv : RF V 6 valE w v s.vals) (hu : RF Any 6 valE w u m.vals) (hsq : in33 s.state ∧ in33 s.seq ∧ in33 m.state ∧ in33 m.seq) (hck : chkM m = 0) (hpub : m.pub = s.pub) (hrev : m.rev = s.rev) (hkn : s.known = true) (hlf : ¬ s.left < 1) (hst : m.state = s.state) (hnb : newB s.seq m.seq = true) (hte : m.test = s.test) (hva : m.vals ≠ s.vals) :
    Calls Try.prog 36 #[subA s v, msgA m u] w (RetTV V w (s, 4)) := by
  have HCK := Lib.hid (fun w1 (he : Ext w w1) => checkMR_any m u w1 (hu.ext he))
  rw [hck] at HCK
  clear hck
  have HSV := Lib.hid (fun w1 (he : Ext w w1) => sameVR_any m.vals s.vals u v w1 (hu.ext he) ((hv.weak (V' := Any) (by omega) fun _ _ h => h.elim).ext he))
  have HNW := Lib.hid (fun w1 => newerR_any s.seq m.seq w1 hsq.2.1 hsq.2.2.2)
  have HVV : Hid (∀ w3 w4, Ext w w3 → Agree (fun g => w.heap.size ≤ g) w3 w4 → RF V 6 valE w4 v s.vals) := fun w3 w4 he ha => (((hv.weak (by omega) (V' := fun g => V g ∨ w.heap.size ≤ g) (fun g hg h => h.elim id (fun h => absurd h (by omega)))).ext he).agree (ha.mono fun g hg => .inr hg)).weak (by omega) (fun g _ hg => .inl hg)
  obtain ⟨a, c, rfl, _, _⟩ := hv.form
  obtain ⟨am, cm, rfl, _, _⟩ := hu.form
  have HF : Hid (∀ w', Ext w w' → RF V 6 valE w' (.slice a s.vals.length c) s.vals → RetTV V w (s, 4) (.returned (.tuple #[subA s (.slice a s.vals.length c), .int .i64 4])) w') := fun w' he hr => ⟨a, c, rfl, he, hr⟩
  generalize hss : RetTV V w (s, 4) = R at *
  have HSQ := Lib.hid hsq
  clear hss hv hu hsq
  obtain ⟨s1, s2, s3, s4, s5, s6, s7, s8, vs⟩ := s
  obtain ⟨m1, m2, m3, m4, m5, m6, m7, m8, m9, vm⟩ := m
  simp only at *
  have hp : (m1 != s1) = false := by simpa using hpub
  have hr : (m9 != s2) = false := by simpa using hrev
  clear hpub hrev
  subst hkn
  have hle : decide (s6 < 1) = false := by simpa using hlf
  clear hlf
  have hse : (m6 == s4) = true := by simpa using hst
  clear hst
  rw [hnb] at HNW
  clear hnb
  subst hte
  have hvb : decide (vm = vs) = false := by simpa using hva
  rw [hvb] at HSV
  clear hvb hva
  generalize hn : vs.length = n at *
  have HNN := Lib.hid hn
  generalize hnm : vm.length = nm at *
  have HNM := Lib.hid hnm
  clear hn hnm
  go_enter Try.func36, Try.ntmps36
  go_wp2_with fail
  have X0 : Ext w (((w.alloc (.cells #[.int .i64 s1, .int .i64 s2, .bool true, .int .i64 s4, .int .i64 s5, .int .i64 s6, .int .i64 s7, .bool m8, .slice a n c] 67)).alloc (.cells #[.int .i64 m1, .int .i64 m2, .int .i64 m3, .int .i64 m4, .int .i64 m5, .int .i64 m6, .int .i64 m7, .bool m8, .int .i64 m9, .slice am nm cm] 58)).alloc (.cells #[.int .i64 0, .int .i64 0, .bool false, .int .i64 0, .int .i64 0, .int .i64 0, .int .i64 0, .bool false, .slice none 0 0] 67)) := (((Ext.refl w).alloc _).alloc _).alloc _
  have BS := Lib.hid (((Bk.new w #[.int .i64 s1, .int .i64 s2, .bool true, .int .i64 s4, .int .i64 s5, .int .i64 s6, .int .i64 s7, .bool m8, .slice a n c] 67 w.heap.size rfl).alloc (.cells #[.int .i64 m1, .int .i64 m2, .int .i64 m3, .int .i64 m4, .int .i64 m5, .int .i64 m6, .int .i64 m7, .bool m8, .int .i64 m9, .slice am nm cm] 58)).alloc (.cells #[.int .i64 0, .int .i64 0, .bool false, .int .i64 0, .int .i64 0, .int .i64 0, .int .i64 0, .bool false, .slice none 0 0] 67))
  have BM := Lib.hid ((Bk.new (w.alloc (.cells #[.int .i64 s1, .int .i64 s2, .bool true, .int .i64 s4, .int .i64 s5, .int .i64 s6, .int .i64 s7, .bool m8, .slice a n c] 67)) #[.int .i64 m1, .int .i64 m2, .int .i64 m3, .int .i64 m4, .int .i64 m5, .int .i64 m6, .int .i64 m7, .bool m8, .int .i64 m9, .slice am nm cm] 58 (w.heap.size + 1) (by simp)).alloc (.cells #[.int .i64 0, .int .i64 0, .bool false, .int .i64 0, .int .i64 0, .int .i64 0, .int .i64 0, .bool false, .slice none 0 0] 67))
  have BR := Lib.hid (Bk.new ((w.alloc (.cells #[.int .i64 s1, .int .i64 s2, .bool true, .int .i64 s4, .int .i64 s5, .int .i64 s6, .int .i64 s7, .bool m8, .slice a n c] 67)).alloc (.cells #[.int .i64 m1, .int .i64 m2, .int .i64 m3, .int .i64 m4, .int .i64 m5, .int .i64 m6, .int .i64 m7, .bool m8, .int .i64 m9, .slice am nm cm] 58)) #[.int .i64 0, .int .i64 0, .bool false, .int .i64 0, .int .i64 0, .int .i64 0, .int .i64 0, .bool false, .slice none 0 0] 67 (w.heap.size + 1 + 1) (by simp))
  refine (HCK.out _ X0).mono ?_
  generalize ((w.alloc (.cells #[.int .i64 s1, .int .i64 s2, .bool true, .int .i64 s4, .int .i64 s5, .int .i64 s6, .int .i64 s7, .bool m8, .slice a n c] 67)).alloc (.cells #[.int .i64 m1, .int .i64 m2, .int .i64 m3, .int .i64 m4, .int .i64 m5, .int .i64 m6, .int .i64 m7, .bool m8, .int .i64 m9, .slice am nm cm] 58)).alloc (.cells #[.int .i64 0, .int .i64 0, .bool false, .int .i64 0, .int .i64 0, .int .i64 0, .int .i64 0, .bool false, .slice none 0 0] 67) = W at *
  rintro e w1 ⟨rfl, x1⟩
  have BS1 := Lib.hid (BS.out.ext x1)
  have BM1 := Lib.hid (BM.out.ext x1)
  have BR1 := Lib.hid (BR.out.ext x1)
  have X1 := X0.trans x1
  have qs := BS1.out.cell
  have qm := BM1.out.cell
  clear BS BM BR HCK
  go_wp2_with fail
  refine (HNW.out _).mono ?_
  rintro e w2 ⟨rfl, rfl⟩
  go_wp2_with fail
  refine (HSV.out _ X1).mono ?_
  rintro e w2 ⟨rfl, x2⟩
  have XX := X1.trans x2
  have BSX := Lib.hid (BS1.out.ext x2)
  have BMX := Lib.hid (BM1.out.ext x2)
  have BRX := Lib.hid (BR1.out.ext x2)
  clear qs qm
  have qs := BSX.out.cell
  have qm := BMX.out.cell
  obtain ⟨wX, hwX⟩ : ∃ wX, wX = w2 := ⟨_, rfl⟩
  subst hwX
  have f3 := BRX.out.frozen
  have q3 := BRX.out.cell
  go_wp2_with fail
  change bodyPost _ _ _ _ _ (put wX (w.heap.size + 1 + 1) 0 [.int .i64 s1, .int .i64 s2, .bool true, .int .i64 s4, .int .i64 s5, .int .i64 s6, .int .i64 s7, .bool m8, .slice a n c])
  have C4 := put_all (vs := [.int .i64 s1, .int .i64 s2, .bool true, .int .i64 s4, .int .i64 s5, .int .i64 s6, .int .i64 s7, .bool m8, .slice a n c]) BRX.out rfl
  have X4 := put_ext (a := w) (show w.heap.size ≤ w.heap.size + 1 + 1 by omega) [.int .i64 s1, .int .i64 s2, .bool true, .int .i64 s4, .int .i64 s5, .int .i64 s6, .int .i64 s7, .bool m8, .slice a n c] 0 _ XX
  have R4 := HVV.out _ _ XX (agree_put (V := fun g => w.heap.size ≤ g) (B := w.heap.size + 1 + 1) (show w.heap.size ≤ w.heap.size + 1 + 1 by omega) [.int .i64 s1, .int .i64 s2, .bool true, .int .i64 s4, .int .i64 s5, .int .i64 s6, .int .i64 s7, .bool m8, .slice a n c] 0 wX)
  generalize put wX (w.heap.size + 1 + 1) 0 [.int .i64 s1, .int .i64 s2, .bool true, .int .i64 s4, .int .i64 s5, .int .i64 s6, .int .i64 s7, .bool m8, .slice a n c] = w4 at *
  have c4 := C4.cell
  exact bodyPost_ret (v := .tuple #[.agg #[.int .i64 s1, .int .i64 s2, .bool true, .int .i64 s4, .int .i64 s5, .int .i64 s6, .int .i64 s7, .bool m8, .slice a n c], .int .i64 4]) (by simp [results, Try.results36, go_sem, c4]) rfl (HF.out _ X4 R4)
set_option maxRecDepth 100000 in
set_option maxHeartbeats 8000000 in
theorem takeR_rep {V : Nat → Prop} (s : SSt) (m : Msg) (v u : Value) (w : World) (hv : RF V 6 valE w v s.vals) (hu : RF Any 6 valE w u m.vals) (hV : ∀ g, V g → g < w.heap.size) (hl' : m.vals.length ≤ 1000000000) (hlo : 0 ≤ s.lost ∧ s.lost ≤ 1000000) (hsq : in33 s.state ∧ in33 s.seq ∧ in33 m.state ∧ in33 m.seq) (hck : chkM m = 0) (hpub : m.pub = s.pub) (hrev : m.rev = s.rev) (hkn : s.known = true) (hlf : ¬ s.left < 1) (hst : m.state = s.state) (hnb : newB s.seq m.seq = true) (hte : m.test = s.test) (hva : m.vals = s.vals) :
    Calls Try.prog 36 #[subA s v, msgA m u] w (RetTV V w (accS s m (dist s.seq m.seq - 1), 3)) := by
  have HCK := Lib.hid (fun w1 (he : Ext w w1) => checkMR_any m u w1 (hu.ext he))
  rw [hck] at HCK
  clear hck
  have HSV := Lib.hid (fun w1 (he : Ext w w1) => sameVR_any m.vals s.vals u v w1 (hu.ext he) ((hv.weak (V' := Any) (by omega) fun _ _ h => h.elim).ext he))
  have HNW := Lib.hid (fun w1 => newerR_any s.seq m.seq w1 hsq.2.1 hsq.2.2.2)
  have HDI := Lib.hid (fun w1 => distanceR_any s.seq m.seq w1 hsq.2.1 hsq.2.2.2)
  have HOV : Hid (∀ (wa wb : World) (u' : Value), Ext w wa → RF (Old wa) 6 valE wb u' m.vals → RF V 6 valE wb u' m.vals) := fun wa wb u' he h => h.weak (by omega) (fun g _ hg => he.lt (hV g hg))
  have HACC0 := Lib.hid (fun (a : Option Addr) (n c : Nat) w1 (he : Ext w w1) => acceptR_any s m a n c u (dist s.seq m.seq - 1) w1 (hu.ext he) hl' hlo.1 hlo.2 (by have h1 := dist_lo s.seq m.seq; omega) (by have h1 := dist_lo s.seq m.seq; omega))
  obtain ⟨a, c, rfl, _, _⟩ := hv.form
  obtain ⟨am, cm, rfl, _, _⟩ := hu.form
  have HACC := Lib.hid (HACC0.out a s.vals.length c)
  clear HACC0
  have HF : Hid (∀ w' a' c', Ext w w' → RF V 6 valE w' (.slice a' m.vals.length c') m.vals → RetTV V w (accS s m (dist s.seq m.seq - 1), 3) (.returned (.tuple #[.agg #[.int .i64 s.pub, .int .i64 s.rev, .bool true, .int .i64 m.state, .int .i64 m.seq, .int .i64 m.ttl, .int .i64 (raiseS s.lost (dist s.seq m.seq - 1)), .bool m.test, .slice a' m.vals.length c'], .int .i64 3])) w') := fun w' a' c' he hr => ⟨a', c', rfl, he, hr⟩
  obtain ⟨r7, hr7⟩ : ∃ r7, raiseS s.lost (dist s.seq m.seq - 1) = r7 := ⟨_, rfl⟩
  rw [hr7] at HF
  have HR7 := Lib.hid hr7
  clear hr7
  generalize hss : RetTV V w (accS s m (dist s.seq m.seq - 1), 3) = R at *
  have HSQ := Lib.hid hsq
  clear hss hv hu hl' hlo hV hsq
  obtain ⟨s1, s2, s3, s4, s5, s6, s7, s8, vs⟩ := s
  obtain ⟨m1, m2, m3, m4, m5, m6, m7, m8, m9, vm⟩ := m
  simp only at *
  have hp : (m1 != s1) = false := by simpa using hpub
  have hr : (m9 != s2) = false := by simpa using hrev
  clear hpub hrev
  subst hkn
  have hle : decide (s6 < 1) = false := by simpa using hlf
  clear hlf
  have hse : (m6 == s4) = true := by simpa using hst
  clear hst
  rw [hnb] at HNW
  clear hnb
  have hdl := dist_lo s5 m7
  have ew : IntKind.i64.wrap (dist s5 m7 - 1) = dist s5 m7 - 1 := IntWalk.i64_in _ (by omega)
  clear hdl
  generalize dist s5 m7 = d at *
  subst hte
  have hvb : decide (vm = vs) = true := by simpa using hva
  rw [hvb] at HSV
  clear hvb hva
  generalize hn : vs.length = n at *
  have HNN := Lib.hid hn
  generalize hnm : vm.length = nm at *
  have HNM := Lib.hid hnm
  clear hn hnm
  go_enter Try.func36, Try.ntmps36
  go_wp2_with fail
  have X0 : Ext w (((w.alloc (.cells #[.int .i64 s1, .int .i64 s2, .bool true, .int .i64 s4, .int .i64 s5, .int .i64 s6, .int .i64 s7, .bool m8, .slice a n c] 67)).alloc (.cells #[.int .i64 m1, .int .i64 m2, .int .i64 m3, .int .i64 m4, .int .i64 m5, .int .i64 m6, .int .i64 m7, .bool m8, .int .i64 m9, .slice am nm cm] 58)).alloc (.cells #[.int .i64 0, .int .i64 0, .bool false, .int .i64 0, .int .i64 0, .int .i64 0, .int .i64 0, .bool false, .slice none 0 0] 67)) := (((Ext.refl w).alloc _).alloc _).alloc _
  have BS := Lib.hid (((Bk.new w #[.int .i64 s1, .int .i64 s2, .bool true, .int .i64 s4, .int .i64 s5, .int .i64 s6, .int .i64 s7, .bool m8, .slice a n c] 67 w.heap.size rfl).alloc (.cells #[.int .i64 m1, .int .i64 m2, .int .i64 m3, .int .i64 m4, .int .i64 m5, .int .i64 m6, .int .i64 m7, .bool m8, .int .i64 m9, .slice am nm cm] 58)).alloc (.cells #[.int .i64 0, .int .i64 0, .bool false, .int .i64 0, .int .i64 0, .int .i64 0, .int .i64 0, .bool false, .slice none 0 0] 67))
  have BM := Lib.hid ((Bk.new (w.alloc (.cells #[.int .i64 s1, .int .i64 s2, .bool true, .int .i64 s4, .int .i64 s5, .int .i64 s6, .int .i64 s7, .bool m8, .slice a n c] 67)) #[.int .i64 m1, .int .i64 m2, .int .i64 m3, .int .i64 m4, .int .i64 m5, .int .i64 m6, .int .i64 m7, .bool m8, .int .i64 m9, .slice am nm cm] 58 (w.heap.size + 1) (by simp)).alloc (.cells #[.int .i64 0, .int .i64 0, .bool false, .int .i64 0, .int .i64 0, .int .i64 0, .int .i64 0, .bool false, .slice none 0 0] 67))
  have BR := Lib.hid (Bk.new ((w.alloc (.cells #[.int .i64 s1, .int .i64 s2, .bool true, .int .i64 s4, .int .i64 s5, .int .i64 s6, .int .i64 s7, .bool m8, .slice a n c] 67)).alloc (.cells #[.int .i64 m1, .int .i64 m2, .int .i64 m3, .int .i64 m4, .int .i64 m5, .int .i64 m6, .int .i64 m7, .bool m8, .int .i64 m9, .slice am nm cm] 58)) #[.int .i64 0, .int .i64 0, .bool false, .int .i64 0, .int .i64 0, .int .i64 0, .int .i64 0, .bool false, .slice none 0 0] 67 (w.heap.size + 1 + 1) (by simp))
  refine (HCK.out _ X0).mono ?_
  generalize ((w.alloc (.cells #[.int .i64 s1, .int .i64 s2, .bool true, .int .i64 s4, .int .i64 s5, .int .i64 s6, .int .i64 s7, .bool m8, .slice a n c] 67)).alloc (.cells #[.int .i64 m1, .int .i64 m2, .int .i64 m3, .int .i64 m4, .int .i64 m5, .int .i64 m6, .int .i64 m7, .bool m8, .int .i64 m9, .slice am nm cm] 58)).alloc (.cells #[.int .i64 0, .int .i64 0, .bool false, .int .i64 0, .int .i64 0, .int .i64 0, .int .i64 0, .bool false, .slice none 0 0] 67) = W at *
  rintro e w1 ⟨rfl, x1⟩
  have BS1 := Lib.hid (BS.out.ext x1)
  have BM1 := Lib.hid (BM.out.ext x1)
  have BR1 := Lib.hid (BR.out.ext x1)
  have X1 := X0.trans x1
  have qs := BS1.out.cell
  have qm := BM1.out.cell
  clear BS BM BR HCK
  go_wp2_with fail
  refine (HNW.out _).mono ?_
  rintro e w2 ⟨rfl, rfl⟩
  go_wp2_with fail
  refine (HSV.out _ X1).mono ?_
  rintro e w2 ⟨rfl, x2⟩
  have XX := X1.trans x2
  have BSX := Lib.hid (BS1.out.ext x2)
  have BMX := Lib.hid (BM1.out.ext x2)
  have BRX := Lib.hid (BR1.out.ext x2)
  clear qs qm
  have qs := BSX.out.cell
  have qm := BMX.out.cell
  obtain ⟨wX, hwX⟩ : ∃ wX, wX = w2 := ⟨_, rfl⟩
  subst hwX
  go_upto_region 10 with fail
  have HBC := Lib.hid (fun w' (he : Ext wX w') => And.intro (BSX.out.ext he).cell (BMX.out.ext he).cell)
  have XY := Lib.hid XX
  go_region_held3 (fun w' => (∀ j, w'.cell? ⟨w.heap.size, j, none⟩ = (#[.int .i64 s1, .int .i64 s2, .bool true, .int .i64 s4, .int .i64 s5, .int .i64 s6, .int .i64 s7, .bool m8, .slice a n c] : Array Value)[j]?) ∧ (∀ j, w'.cell? ⟨w.heap.size + 1, j, none⟩ = (#[.int .i64 m1, .int .i64 m2, .int .i64 m3, .int .i64 m4, .int .i64 m5, .int .i64 m6, .int .i64 m7, .bool m8, .int .i64 m9, .slice am nm cm] : Array Value)[j]?))
    (first | (with_reducible exact ⟨qs, qm⟩) | (exact HBC.out _ (by first | (with_reducible exact (Ext.refl wX).drew) | (with_reducible exact E3))) | (refine ⟨fun j => ?_, fun j => ?_⟩ <;> (repeat rw [World.cell?_setCell_other _ _ _ _ (by first | (simp; done) | (simp; omega))]) <;> first | (with_reducible exact (HBC.out _ E3).1 j) | (with_reducible exact (HBC.out _ E3).2 j)) | fail)
    (first
      | (go_at_call 63; (with_reducible refine (HDI.out _).mono ?_); rintro e w5 ⟨rfl, rfl⟩)
      | (go_at_call 61; (with_reducible refine (HACC.out _ XX.drew).mono ?_); rintro e w3 ⟨a3, c3, he, x3, r3⟩; simp only [accS, HR7.out, HNM.out] at he r3; subst he; have E3 : Ext wX w3 := (Ext.refl wX).drew.trans x3; have R3 := Lib.hid r3; have BR3 := Lib.hid (BRX.out.ext E3); have q3 := BR3.out.cell; have f3 := BR3.out.frozen; clear r3)
      | fail)
  all_goals
    change Exit.then _ _ _ _ (put w3 (w.heap.size + 1 + 1) 0 [.int .i64 s1, .int .i64 s2, .bool true, .int .i64 m6, .int .i64 m7, .int .i64 m2, .int .i64 r7, .bool m8, .slice a3 nm c3])
    have C4 := put_all (vs := [.int .i64 s1, .int .i64 s2, .bool true, .int .i64 m6, .int .i64 m7, .int .i64 m2, .int .i64 r7, .bool m8, .slice a3 nm c3]) BR3.out rfl
    have X4 := put_ext (a := w) (show w.heap.size ≤ w.heap.size + 1 + 1 by omega) [.int .i64 s1, .int .i64 s2, .bool true, .int .i64 m6, .int .i64 m7, .int .i64 m2, .int .i64 r7, .bool m8, .slice a3 nm c3] 0 _ (XY.out.trans E3)
    have R4 := HOV.out _ _ _ XY.out.drew (R3.out.agree (agree_put (V := Old wX.drew) (B := w.heap.size + 1 + 1) BRX.out.lt [.int .i64 s1, .int .i64 s2, .bool true, .int .i64 m6, .int .i64 m7, .int .i64 m2, .int .i64 r7, .bool m8, .slice a3 nm c3] 0 w3))
    generalize put w3 (w.heap.size + 1 + 1) 0 _ = w4 at *
    have c4 := C4.cell
    have HC4 := Lib.hid C4
    clear C4 q3 f3 x3 qs qm
    go_wp2_with fail
    exact bodyPost_ret (v := .tuple #[.agg #[.int .i64 s1, .int .i64 s2, .bool true, .int .i64 m6, .int .i64 m7, .int .i64 m2, .int .i64 r7, .bool m8, .slice a3 nm c3], .int .i64 3]) (by simp [results, Try.results36, go_sem, c4]) rfl (HF.out _ _ _ X4 R4)
set_option maxRecDepth 100000 in
set_option maxHeartbeats 8000000 in
theorem takeR_old4 {V : Nat → Prop} (s : SSt) (m : Msg) (v u : Value) (w : World) (hv : RF V 6 valE w v s.vals) (hu : RF Any 6 valE w u m.vals) (hsq : in33 s.state ∧ in33 s.seq ∧ in33 m.state ∧ in33 m.seq) (hck : chkM m = 0) (hpub : m.pub = s.pub) (hrev : m.rev = s.rev) (hkn : s.known = true) (hlf : ¬ s.left < 1) (hst : m.state ≠ s.state) (hnb : newB s.state m.state = false) :
    Calls Try.prog 36 #[subA s v, msgA m u] w (RetTV V w (s, 4)) := by
  have HCK := Lib.hid (fun w1 (he : Ext w w1) => checkMR_any m u w1 (hu.ext he))
  rw [hck] at HCK
  clear hck
  have HNW := Lib.hid (fun w1 => newerR_any s.state m.state w1 hsq.1 hsq.2.2.1)
  have HVV : Hid (∀ w3 w4, Ext w w3 → Agree (fun g => w.heap.size ≤ g) w3 w4 → RF V 6 valE w4 v s.vals) := fun w3 w4 he ha => (((hv.weak (by omega) (V' := fun g => V g ∨ w.heap.size ≤ g) (fun g hg h => h.elim id (fun h => absurd h (by omega)))).ext he).agree (ha.mono fun g hg => .inr hg)).weak (by omega) (fun g _ hg => .inl hg)
  obtain ⟨a, c, rfl, _, _⟩ := hv.form
  obtain ⟨am, cm, rfl, _, _⟩ := hu.form
  have HF : Hid (∀ w', Ext w w' → RF V 6 valE w' (.slice a s.vals.length c) s.vals → RetTV V w (s, 4) (.returned (.tuple #[subA s (.slice a s.vals.length c), .int .i64 4])) w') := fun w' he hr => ⟨a, c, rfl, he, hr⟩
  generalize hss : RetTV V w (s, 4) = R at *
  have HSQ := Lib.hid hsq
  clear hss hv hu hsq
  obtain ⟨s1, s2, s3, s4, s5, s6, s7, s8, vs⟩ := s
  obtain ⟨m1, m2, m3, m4, m5, m6, m7, m8, m9, vm⟩ := m
  simp only at *
  have hp : (m1 != s1) = false := by simpa using hpub
  have hr : (m9 != s2) = false := by simpa using hrev
  clear hpub hrev
  subst hkn
  have hle : decide (s6 < 1) = false := by simpa using hlf
  clear hlf
  have hse : (m6 == s4) = false := by simpa using hst
  clear hst
  rw [hnb] at HNW
  clear hnb
  generalize hn : vs.length = n at *
  have HNN := Lib.hid hn
  generalize hnm : vm.length = nm at *
  have HNM := Lib.hid hnm
  clear hn hnm
  go_enter Try.func36, Try.ntmps36
  go_wp2_with fail
  have X0 : Ext w (((w.alloc (.cells #[.int .i64 s1, .int .i64 s2, .bool true, .int .i64 s4, .int .i64 s5, .int .i64 s6, .int .i64 s7, .bool s8, .slice a n c] 67)).alloc (.cells #[.int .i64 m1, .int .i64 m2, .int .i64 m3, .int .i64 m4, .int .i64 m5, .int .i64 m6, .int .i64 m7, .bool m8, .int .i64 m9, .slice am nm cm] 58)).alloc (.cells #[.int .i64 0, .int .i64 0, .bool false, .int .i64 0, .int .i64 0, .int .i64 0, .int .i64 0, .bool false, .slice none 0 0] 67)) := (((Ext.refl w).alloc _).alloc _).alloc _
  have BS := Lib.hid (((Bk.new w #[.int .i64 s1, .int .i64 s2, .bool true, .int .i64 s4, .int .i64 s5, .int .i64 s6, .int .i64 s7, .bool s8, .slice a n c] 67 w.heap.size rfl).alloc (.cells #[.int .i64 m1, .int .i64 m2, .int .i64 m3, .int .i64 m4, .int .i64 m5, .int .i64 m6, .int .i64 m7, .bool m8, .int .i64 m9, .slice am nm cm] 58)).alloc (.cells #[.int .i64 0, .int .i64 0, .bool false, .int .i64 0, .int .i64 0, .int .i64 0, .int .i64 0, .bool false, .slice none 0 0] 67))
  have BM := Lib.hid ((Bk.new (w.alloc (.cells #[.int .i64 s1, .int .i64 s2, .bool true, .int .i64 s4, .int .i64 s5, .int .i64 s6, .int .i64 s7, .bool s8, .slice a n c] 67)) #[.int .i64 m1, .int .i64 m2, .int .i64 m3, .int .i64 m4, .int .i64 m5, .int .i64 m6, .int .i64 m7, .bool m8, .int .i64 m9, .slice am nm cm] 58 (w.heap.size + 1) (by simp)).alloc (.cells #[.int .i64 0, .int .i64 0, .bool false, .int .i64 0, .int .i64 0, .int .i64 0, .int .i64 0, .bool false, .slice none 0 0] 67))
  have BR := Lib.hid (Bk.new ((w.alloc (.cells #[.int .i64 s1, .int .i64 s2, .bool true, .int .i64 s4, .int .i64 s5, .int .i64 s6, .int .i64 s7, .bool s8, .slice a n c] 67)).alloc (.cells #[.int .i64 m1, .int .i64 m2, .int .i64 m3, .int .i64 m4, .int .i64 m5, .int .i64 m6, .int .i64 m7, .bool m8, .int .i64 m9, .slice am nm cm] 58)) #[.int .i64 0, .int .i64 0, .bool false, .int .i64 0, .int .i64 0, .int .i64 0, .int .i64 0, .bool false, .slice none 0 0] 67 (w.heap.size + 1 + 1) (by simp))
  refine (HCK.out _ X0).mono ?_
  generalize ((w.alloc (.cells #[.int .i64 s1, .int .i64 s2, .bool true, .int .i64 s4, .int .i64 s5, .int .i64 s6, .int .i64 s7, .bool s8, .slice a n c] 67)).alloc (.cells #[.int .i64 m1, .int .i64 m2, .int .i64 m3, .int .i64 m4, .int .i64 m5, .int .i64 m6, .int .i64 m7, .bool m8, .int .i64 m9, .slice am nm cm] 58)).alloc (.cells #[.int .i64 0, .int .i64 0, .bool false, .int .i64 0, .int .i64 0, .int .i64 0, .int .i64 0, .bool false, .slice none 0 0] 67) = W at *
  rintro e w1 ⟨rfl, x1⟩
  have BS1 := Lib.hid (BS.out.ext x1)
  have BM1 := Lib.hid (BM.out.ext x1)
  have BR1 := Lib.hid (BR.out.ext x1)
  have X1 := X0.trans x1
  have qs := BS1.out.cell
  have qm := BM1.out.cell
  clear BS BM BR HCK
  go_wp2_with fail
  refine (HNW.out _).mono ?_
  rintro e w2 ⟨rfl, rfl⟩
  have XX := X1
  have BSX := BS1
  have BMX := BM1
  have BRX := BR1
  obtain ⟨wX, hwX⟩ : ∃ wX, wX = w1 := ⟨_, rfl⟩
  subst hwX
  have f3 := BRX.out.frozen
  have q3 := BRX.out.cell
  go_wp2_with fail
  change bodyPost _ _ _ _ _ (put wX (w.heap.size + 1 + 1) 0 [.int .i64 s1, .int .i64 s2, .bool true, .int .i64 s4, .int .i64 s5, .int .i64 s6, .int .i64 s7, .bool s8, .slice a n c])
  have C4 := put_all (vs := [.int .i64 s1, .int .i64 s2, .bool true, .int .i64 s4, .int .i64 s5, .int .i64 s6, .int .i64 s7, .bool s8, .slice a n c]) BRX.out rfl
  have X4 := put_ext (a := w) (show w.heap.size ≤ w.heap.size + 1 + 1 by omega) [.int .i64 s1, .int .i64 s2, .bool true, .int .i64 s4, .int .i64 s5, .int .i64 s6, .int .i64 s7, .bool s8, .slice a n c] 0 _ XX
  have R4 := HVV.out _ _ XX (agree_put (V := fun g => w.heap.size ≤ g) (B := w.heap.size + 1 + 1) (show w.heap.size ≤ w.heap.size + 1 + 1 by omega) [.int .i64 s1, .int .i64 s2, .bool true, .int .i64 s4, .int .i64 s5, .int .i64 s6, .int .i64 s7, .bool s8, .slice a n c] 0 wX)
  generalize put wX (w.heap.size + 1 + 1) 0 [.int .i64 s1, .int .i64 s2, .bool true, .int .i64 s4, .int .i64 s5, .int .i64 s6, .int .i64 s7, .bool s8, .slice a n c] = w4 at *
  have c4 := C4.cell
  exact bodyPost_ret (v := .tuple #[.agg #[.int .i64 s1, .int .i64 s2, .bool true, .int .i64 s4, .int .i64 s5, .int .i64 s6, .int .i64 s7, .bool s8, .slice a n c], .int .i64 4]) (by simp [results, Try.results36, go_sem, c4]) rfl (HF.out _ X4 R4)
set_option maxRecDepth 100000 in
set_option maxHeartbeats 8000000 in
theorem takeR_change {V : Nat → Prop} (s : SSt) (m : Msg) (v u : Value) (w : World) (hv : RF V 6 valE w v s.vals) (hu : RF Any 6 valE w u m.vals) (hV : ∀ g, V g → g < w.heap.size) (hl' : m.vals.length ≤ 1000000000) (hlo : 0 ≤ s.lost ∧ s.lost ≤ 1000000) (hsq : in33 s.state ∧ in33 s.seq ∧ in33 m.state ∧ in33 m.seq) (hck : chkM m = 0) (hpub : m.pub = s.pub) (hrev : m.rev = s.rev) (hkn : s.known = true) (hlf : ¬ s.left < 1) (hst : m.state ≠ s.state) (hnb : newB s.state m.state = true) (hs5 : m.seq ≤ 5000000000) :
    Calls Try.prog 36 #[subA s v, msgA m u] w (RetTV V w (accS s m (dist s.state m.state - 1 + m.seq), 2)) := by
  have HCK := Lib.hid (fun w1 (he : Ext w w1) => checkMR_any m u w1 (hu.ext he))
  rw [hck] at HCK
  clear hck
  have HNW := Lib.hid (fun w1 => newerR_any s.state m.state w1 hsq.1 hsq.2.2.1)
  have HDI := Lib.hid (fun w1 => distanceR_any s.state m.state w1 hsq.1 hsq.2.2.1)
  have HOV : Hid (∀ (wa wb : World) (u' : Value), Ext w wa → RF (Old wa) 6 valE wb u' m.vals → RF V 6 valE wb u' m.vals) := fun wa wb u' he h => h.weak (by omega) (fun g _ hg => he.lt (hV g hg))
  have HACC0 := Lib.hid (fun (a : Option Addr) (n c : Nat) w1 (he : Ext w w1) => acceptR_any s m a n c u (dist s.state m.state - 1 + m.seq) w1 (hu.ext he) hl' hlo.1 hlo.2 (by have h1 := dist_lo s.state m.state; have h2 := hsq.2.2.2; unfold in33 at h2; have h3 := hs5; omega) (by have h1 := dist_lo s.state m.state; have h2 := hsq.2.2.2; unfold in33 at h2; have h3 := hs5; omega))
  obtain ⟨a, c, rfl, _, _⟩ := hv.form
  obtain ⟨am, cm, rfl, _, _⟩ := hu.form
  have HACC := Lib.hid (HACC0.out a s.vals.length c)
  clear HACC0
  have HF : Hid (∀ w' a' c', Ext w w' → RF V 6 valE w' (.slice a' m.vals.length c') m.vals → RetTV V w (accS s m (dist s.state m.state - 1 + m.seq), 2) (.returned (.tuple #[.agg #[.int .i64 s.pub, .int .i64 s.rev, .bool true, .int .i64 m.state, .int .i64 m.seq, .int .i64 m.ttl, .int .i64 (raiseS s.lost (dist s.state m.state - 1 + m.seq)), .bool m.test, .slice a' m.vals.length c'], .int .i64 2])) w') := fun w' a' c' he hr => ⟨a', c', rfl, he, hr⟩
  obtain ⟨r7, hr7⟩ : ∃ r7, raiseS s.lost (dist s.state m.state - 1 + m.seq) = r7 := ⟨_, rfl⟩
  rw [hr7] at HF
  have HR7 := Lib.hid hr7
  clear hr7
  generalize hss : RetTV V w (accS s m (dist s.state m.state - 1 + m.seq), 2) = R at *
  have HSQ := Lib.hid hsq
  clear hss hv hu hl' hlo hV hsq
  obtain ⟨s1, s2, s3, s4, s5, s6, s7, s8, vs⟩ := s
  obtain ⟨m1, m2, m3, m4, m5, m6, m7, m8, m9, vm⟩ := m
  simp only at *
  have hp : (m1 != s1) = false := by simpa using hpub
  have hr : (m9 != s2) = false := by simpa using hrev
  clear hpub hrev
  subst hkn
  have hle : decide (s6 < 1) = false := by simpa using hlf
  clear hlf
  have hse : (m6 == s4) = false := by simpa using hst
  clear hst
  rw [hnb] at HNW
  clear hnb
  have hdl := dist_lo s4 m6
  have hsq2 := HSQ.out.2.2.2
  unfold in33 at hsq2
  have ew : IntKind.i64.wrap (dist s4 m6 - 1) = dist s4 m6 - 1 := IntWalk.i64_in _ (by omega)
  have ew2 : IntKind.i64.wrap (dist s4 m6 - 1 + m7) = dist s4 m6 - 1 + m7 := IntWalk.i64_in _ (by omega)
  clear hdl hsq2
  generalize dist s4 m6 = d at *
  generalize hn : vs.length = n at *
  have HNN := Lib.hid hn
  generalize hnm : vm.length = nm at *
  have HNM := Lib.hid hnm
  clear hn hnm
  go_enter Try.func36, Try.ntmps36
  go_wp2_with fail
  have X0 : Ext w (((w.alloc (.cells #[.int .i64 s1, .int .i64 s2, .bool true, .int .i64 s4, .int .i64 s5, .int .i64 s6, .int .i64 s7, .bool s8, .slice a n c] 67)).alloc (.cells #[.int .i64 m1, .int .i64 m2, .int .i64 m3, .int .i64 m4, .int .i64 m5, .int .i64 m6, .int .i64 m7, .bool m8, .int .i64 m9, .slice am nm cm] 58)).alloc (.cells #[.int .i64 0, .int .i64 0, .bool false, .int .i64 0, .int .i64 0, .int .i64 0, .int .i64 0, .bool false, .slice none 0 0] 67)) := (((Ext.refl w).alloc _).alloc _).alloc _
  have BS := Lib.hid (((Bk.new w #[.int .i64 s1, .int .i64 s2, .bool true, .int .i64 s4, .int .i64 s5, .int .i64 s6, .int .i64 s7, .bool s8, .slice a n c] 67 w.heap.size rfl).alloc (.cells #[.int .i64 m1, .int .i64 m2, .int .i64 m3, .int .i64 m4, .int .i64 m5, .int .i64 m6, .int .i64 m7, .bool m8, .int .i64 m9, .slice am nm cm] 58)).alloc (.cells #[.int .i64 0, .int .i64 0, .bool false, .int .i64 0, .int .i64 0, .int .i64 0, .int .i64 0, .bool false, .slice none 0 0] 67))
  have BM := Lib.hid ((Bk.new (w.alloc (.cells #[.int .i64 s1, .int .i64 s2, .bool true, .int .i64 s4, .int .i64 s5, .int .i64 s6, .int .i64 s7, .bool s8, .slice a n c] 67)) #[.int .i64 m1, .int .i64 m2, .int .i64 m3, .int .i64 m4, .int .i64 m5, .int .i64 m6, .int .i64 m7, .bool m8, .int .i64 m9, .slice am nm cm] 58 (w.heap.size + 1) (by simp)).alloc (.cells #[.int .i64 0, .int .i64 0, .bool false, .int .i64 0, .int .i64 0, .int .i64 0, .int .i64 0, .bool false, .slice none 0 0] 67))
  have BR := Lib.hid (Bk.new ((w.alloc (.cells #[.int .i64 s1, .int .i64 s2, .bool true, .int .i64 s4, .int .i64 s5, .int .i64 s6, .int .i64 s7, .bool s8, .slice a n c] 67)).alloc (.cells #[.int .i64 m1, .int .i64 m2, .int .i64 m3, .int .i64 m4, .int .i64 m5, .int .i64 m6, .int .i64 m7, .bool m8, .int .i64 m9, .slice am nm cm] 58)) #[.int .i64 0, .int .i64 0, .bool false, .int .i64 0, .int .i64 0, .int .i64 0, .int .i64 0, .bool false, .slice none 0 0] 67 (w.heap.size + 1 + 1) (by simp))
  refine (HCK.out _ X0).mono ?_
  generalize ((w.alloc (.cells #[.int .i64 s1, .int .i64 s2, .bool true, .int .i64 s4, .int .i64 s5, .int .i64 s6, .int .i64 s7, .bool s8, .slice a n c] 67)).alloc (.cells #[.int .i64 m1, .int .i64 m2, .int .i64 m3, .int .i64 m4, .int .i64 m5, .int .i64 m6, .int .i64 m7, .bool m8, .int .i64 m9, .slice am nm cm] 58)).alloc (.cells #[.int .i64 0, .int .i64 0, .bool false, .int .i64 0, .int .i64 0, .int .i64 0, .int .i64 0, .bool false, .slice none 0 0] 67) = W at *
  rintro e w1 ⟨rfl, x1⟩
  have BS1 := Lib.hid (BS.out.ext x1)
  have BM1 := Lib.hid (BM.out.ext x1)
  have BR1 := Lib.hid (BR.out.ext x1)
  have X1 := X0.trans x1
  have qs := BS1.out.cell
  have qm := BM1.out.cell
  clear BS BM BR HCK
  go_wp2_with fail
  refine (HNW.out _).mono ?_
  rintro e w2 ⟨rfl, rfl⟩
  have XX := X1
  have BSX := BS1
  have BMX := BM1
  have BRX := BR1
  obtain ⟨wX, hwX⟩ : ∃ wX, wX = w1 := ⟨_, rfl⟩
  subst hwX
  go_upto_region 12 with fail
  have HBC := Lib.hid (fun w' (he : Ext wX w') => And.intro (BSX.out.ext he).cell (BMX.out.ext he).cell)
  have XY := Lib.hid XX
  go_region_held3 (fun w' => (∀ j, w'.cell? ⟨w.heap.size, j, none⟩ = (#[.int .i64 s1, .int .i64 s2, .bool true, .int .i64 s4, .int .i64 s5, .int .i64 s6, .int .i64 s7, .bool s8, .slice a n c] : Array Value)[j]?) ∧ (∀ j, w'.cell? ⟨w.heap.size + 1, j, none⟩ = (#[.int .i64 m1, .int .i64 m2, .int .i64 m3, .int .i64 m4, .int .i64 m5, .int .i64 m6, .int .i64 m7, .bool m8, .int .i64 m9, .slice am nm cm] : Array Value)[j]?))
    (first | (with_reducible exact ⟨qs, qm⟩) | (exact HBC.out _ (by first | (with_reducible exact (Ext.refl wX).drew) | (with_reducible exact E3))) | (refine ⟨fun j => ?_, fun j => ?_⟩ <;> (repeat rw [World.cell?_setCell_other _ _ _ _ (by first | (simp; done) | (simp; omega))]) <;> first | (with_reducible exact (HBC.out _ E3).1 j) | (with_reducible exact (HBC.out _ E3).2 j)) | fail)
    (first
      | (go_at_call 63; (with_reducible refine (HDI.out _).mono ?_); rintro e w5 ⟨rfl, rfl⟩)
      | (go_at_call 61; (with_reducible refine (HACC.out _ XX.drew).mono ?_); rintro e w3 ⟨a3, c3, he, x3, r3⟩; simp only [accS, HR7.out, HNM.out] at he r3; subst he; have E3 : Ext wX w3 := (Ext.refl wX).drew.trans x3; have R3 := Lib.hid r3; have BR3 := Lib.hid (BRX.out.ext E3); have q3 := BR3.out.cell; have f3 := BR3.out.frozen; clear r3)
      | fail)
  all_goals
    change Exit.then _ _ _ _ (put w3 (w.heap.size + 1 + 1) 0 [.int .i64 s1, .int .i64 s2, .bool true, .int .i64 m6, .int .i64 m7, .int .i64 m2, .int .i64 r7, .bool m8, .slice a3 nm c3])
    have C4 := put_all (vs := [.int .i64 s1, .int .i64 s2, .bool true, .int .i64 m6, .int .i64 m7, .int .i64 m2, .int .i64 r7, .bool m8, .slice a3 nm c3]) BR3.out rfl
    have X4 := put_ext (a := w) (show w.heap.size ≤ w.heap.size + 1 + 1 by omega) [.int .i64 s1, .int .i64 s2, .bool true, .int .i64 m6, .int .i64 m7, .int .i64 m2, .int .i64 r7, .bool m8, .slice a3 nm c3] 0 _ (XY.out.trans E3)
    have R4 := HOV.out _ _ _ XY.out.drew (R3.out.agree (agree_put (V := Old wX.drew) (B := w.heap.size + 1 + 1) BRX.out.lt [.int .i64 s1, .int .i64 s2, .bool true, .int .i64 m6, .int .i64 m7, .int .i64 m2, .int .i64 r7, .bool m8, .slice a3 nm c3] 0 w3))
    generalize put w3 (w.heap.size + 1 + 1) 0 _ = w4 at *
    have c4 := C4.cell
    have HC4 := Lib.hid C4
    clear C4 q3 f3 x3 qs qm
    go_wp2_with fail
    exact bodyPost_ret (v := .tuple #[.agg #[.int .i64 s1, .int .i64 s2, .bool true, .int .i64 m6, .int .i64 m7, .int .i64 m2, .int .i64 r7, .bool m8, .slice a3 nm c3], .int .i64 2]) (by simp [results, Try.results36, go_sem, c4]) rfl (HF.out _ _ _ X4 R4)
theorem takeR_any {V : Nat → Prop} (s : SSt) (m : Msg) (v u : Value) (w : World) (hv : RF V 6 valE w v s.vals) (hu : RF Any 6 valE w u m.vals) (hV : ∀ g, V g → g < w.heap.size) (hl' : m.vals.length ≤ 1000000000) (hlo : 0 ≤ s.lost ∧ s.lost ≤ 1000000) (hsk : s.known = true → in33 s.state ∧ in33 s.seq) (hsm : in33 m.state ∧ in33 m.seq) (hs5 : m.seq ≤ 5000000000) (hck : chkM m = 0) (hpub : m.pub = s.pub) (hrev : m.rev = s.rev) :
    Calls Try.prog 36 #[subA s v, msgA m u] w (RetTV V w (takeS s m)) := by
  unfold takeS
  rw [if_neg (by intro h; rcases h with h | h | h <;> contradiction)]
  cases hkn : s.known
  · rw [if_pos rfl]
    exact takeR_first s m v u w hv hu hV hl' hlo hck hpub hrev hkn
  · have hsq : in33 s.state ∧ in33 s.seq ∧ in33 m.state ∧ in33 m.seq := ⟨(hsk hkn).1, (hsk hkn).2, hsm.1, hsm.2⟩
    rw [if_neg (by simp)]
    by_cases hlf : s.left < 1
    · rw [if_pos hlf]
      exact takeR_restart s m v u w hv hu hV hl' hlo hsq hck hpub hrev hkn hlf
    · rw [if_neg hlf]
      by_cases hst : m.state = s.state
      · rw [if_pos hst]
        cases hnb : newB s.seq m.seq
        · rw [if_neg (by simp)]
          exact takeR_old1 s m v u w hv hu hsq hck hpub hrev hkn hlf hst hnb
        · by_cases hte : m.test = s.test
          · by_cases hva : m.vals = s.vals
            · rw [if_pos ⟨rfl, hte, hva⟩]
              exact takeR_rep s m v u w hv hu hV hl' hlo hsq hck hpub hrev hkn hlf hst hnb hte hva
            · rw [if_neg (by intro h; exact hva h.2.2)]
              exact takeR_old3 s m v u w hv hu hsq hck hpub hrev hkn hlf hst hnb hte hva
          · rw [if_neg (by intro h; exact hte h.2.1)]
            cases h8 : s.test
            · exact takeR_old2b s m v u w hv hu hsq hck hpub hrev hkn hlf hst hnb h8 (by rw [h8] at hte; simpa using hte)
            · exact takeR_old2a s m v u w hv hu hsq hck hpub hrev hkn hlf hst hnb h8 (by rw [h8] at hte; simpa using hte)
      · rw [if_neg hst]
        cases hnb : newB s.state m.state
        · rw [if_neg (by simp)]
          exact takeR_old4 s m v u w hv hu hsq hck hpub hrev hkn hlf hst hnb
        · rw [if_pos rfl]
          exact takeR_change s m v u w hv hu hV hl' hlo hsq hck hpub hrev hkn hlf hst hnb hs5
end Go.Proofs.Ytopmhaebjpmbfaa
