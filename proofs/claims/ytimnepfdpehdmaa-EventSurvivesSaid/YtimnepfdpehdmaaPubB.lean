/- Step of a publisher: layer 13. -/
import Derived.Test.YtimnepfdpehdmaaTJ
import Derived.Deep.DeepCutAuto
namespace Go.Proofs.Ytimnepfdpehdmaa
open Go.RowKit
attribute [local go_sem ↓] Go.wp_at_zero Go.wp_at_succ

def msgE (m : Msg) (v : Value) : List Value := [.int .i64 m.pub, .int .i64 m.ttl, .int .i64 m.sec, .int .i64 m.frac, .int .i64 m.qual, .int .i64 m.state, .int .i64 m.seq, .bool m.test, .int .i64 m.rev, v]
/-- The cells of a message whose values lie outside V. -/
def msgRep (V : Nat → Prop) (w : World) (m : Msg) (cs : List Value) : Prop := ∃ a c, cs = msgE m (.slice a m.vals.length c) ∧ RF V 6 valE w (.slice a m.vals.length c) m.vals
/-- What Step returns: a publisher and messages, all in new memory. -/
def RetP (w : World) (z : PSt × List Msg) (e : Ending) (w' : World) : Prop :=
  ∃ a c a' c', e = .returned (.tuple #[pubA z.1 (.slice a z.1.vals.length c), .slice a' z.2.length c']) ∧ Ext w w' ∧ RF (Old w) 6 valE w' (.slice a z.1.vals.length c) z.1.vals ∧ RS (Old w) 10 (msgRep (Old w)) w' (.slice a' z.2.length c') z.2
theorem RetP.none {w w' : World} (s : PSt) (a : Option Addr) (c n : Nat) (hn : s.vals.length = n) (he : Ext w w') (hr : RF (Old w) 6 valE w' (.slice a n c) s.vals) : RetP w (s, []) (.returned (.tuple #[pubA s (.slice a n c), .slice none 0 0])) w' := by
  subst hn
  exact ⟨a, c, Option.none, 0, rfl, he, hr, RS.nil _ _ _ _⟩
theorem RetP.one {w W : World} (s : PSt) (m : Msg) (a3 a5 : Option Addr) (c3 c5 n r : Nat) (hs : s.vals.length = n) (hm : m.vals.length = n) (hE : Ext w W) (hB : Bk W r 55 (msgE m (.slice a5 n c5)).toArray) (hr : w.heap.size ≤ r)
    (R : RF (Old w) 6 valE W (.slice a3 n c3) s.vals) (M : RF (Old w) 6 valE W (.slice a5 n c5) m.vals) : RetP w (s, [m]) (.returned (.tuple #[pubA s (.slice a3 n c3), .slice (some ⟨r, 0, Option.none⟩) 1 1])) W := by
  refine ⟨a3, c3, some ⟨r, 0, Option.none⟩, 1, by rw [hs]; rfl, hE, by rw [hs]; exact R, some ⟨r, 0, Option.none⟩, 1, rfl, Nat.le_refl _, by unfold maxLen; omega, fun _ => ⟨r, 0, rfl, fun h => by have : r < w.heap.size := h; omega, fun i hi => ?_⟩⟩
  obtain rfl : i = 0 := by simp at hi; omega
  refine ⟨msgE m (.slice a5 n c5), rfl, show msgRep (Old w) W m (msgE m (.slice a5 n c5)) from ⟨a5, c5, by rw [hm], by rw [hm]; exact M⟩, fun j u hu => ?_⟩
  have := hB.cell j
  simp only [List.getElem?_toArray] at this
  rw [hu] at this
  simpa using this
/-- Numbers that leave room for one step. -/
structure Mod (s : PSt) : Prop where
  since : -4611686018427387904 ≤ s.since ∧ s.since ≤ 4611686018427387904
  state : -4611686018427387904 ≤ s.state ∧ s.state ≤ 4611686018427387904
  seq : -4611686018427387904 ≤ s.seq ∧ s.seq ≤ 4611686018427387904
theorem Ext.set3 {w W : World} {j : Nat} {v : Value} (h : Ext w W) : Ext w (W.setCell ⟨w.heap.size + 1 + 1 + 1, j, none⟩ v) := h.setCell (show w.heap.size ≤ w.heap.size + 1 + 1 + 1 by omega) v
/-- The four variables of Step. -/
structure PW (B : Nat) (W : World) (S T R N : Array Value) : Prop where
  b0 : Bk W B 29 S
  b1 : Bk W (B + 1) 26 T
  b2 : Bk W (B + 1 + 1) 29 R
  b3 : Bk W (B + 1 + 1 + 1) 29 N
theorem PW.ext {B : Nat} {W W' : World} {S T R N : Array Value} (h : PW B W S T R N) (he : Ext W W') : PW B W' S T R N := ⟨h.b0.ext he, h.b1.ext he, h.b2.ext he, h.b3.ext he⟩
theorem PW.drew {B : Nat} {W : World} {S T R N : Array Value} (h : PW B W S T R N) : PW B W.drew S T R N := ⟨h.b0, h.b1, h.b2, h.b3⟩
theorem PW.set {B : Nat} {W : World} {S T R N : Array Value} (h : PW B W S T R N) (j : Nat) (v : Value) : PW B (W.setCell ⟨B + 1 + 1 + 1, j, none⟩ v) S T R (N.setIfInBounds j v) :=
  ⟨h.b0.setOther (by omega) j v, h.b1.setOther (by omega) j v, h.b2.setOther (by omega) j v, h.b3.setCell j v⟩
theorem PW.res {B : Nat} {W : World} {S T R N : Array Value} (h : PW B W S T R N) (vs : List Value) (hl : vs.length = R.size) : PW B (put W (B + 1 + 1) 0 vs) S T vs.toArray N :=
  ⟨put_other (by omega) vs 0 _ h.b0, put_other (by omega) vs 0 _ h.b1, put_all h.b2 hl, put_other (by omega) vs 0 _ h.b3⟩
theorem PW.next {B : Nat} {W : World} {S T R N : Array Value} (h : PW B W S T R N) (vs : List Value) (hl : vs.length = N.size) : PW B (put W (B + 1 + 1 + 1) 0 vs) S T R vs.toArray :=
  ⟨put_other (by omega) vs 0 _ h.b0, put_other (by omega) vs 0 _ h.b1, put_other (by omega) vs 0 _ h.b2, put_all h.b3 hl⟩

set_option maxRecDepth 100000 in
set_option maxHeartbeats 8000000 in
theorem step_quiet (s : PSt) (l : List Val) (t1 t2 t3 : Int) (v u : Value) (w : World) (hv : RF Any 6 valE w v s.vals) (hu : RF Any 6 valE w u l) (hl : s.vals.length ≤ 1000000000) (hl' : l.length ≤ 1000000000) (hm : Mod s) (hd : dueS s l = 0) :
    Calls Try.prog 8 #[pubA s v, u, .agg #[.int .i64 t1, .int .i64 t2, .int .i64 t3]] w (RetP w ({ s with since := s.since + 1 }, [])) := by
  have HD := Lib.hid (fun w1 (he : Ext w w1) => due_any s l v u w1 (hv.ext he) (hu.ext he) hm.since.1 hm.since.2)
  rw [hd] at HD
  have HC := Lib.hid (fun w1 (he : Ext w w1) => dupP_any s.vals v w1 (hv.ext he) hl)
  have HCU := Lib.hid (fun w1 (he : Ext w w1) => dupP_any l u w1 (hu.ext he) hl')
  have hs1 := hm.since.1
  have hs2 := hm.since.2
  have hs3 := hm.state.1
  have hs4 := hm.state.2
  have hs5 := hm.seq.1
  have hs6 := hm.seq.2
  obtain ⟨a, c, rfl, _, _⟩ := hv.form
  obtain ⟨a', c', rfl, _, _⟩ := hu.form
  clear hm hd hv hu hl hl'
  have HF := Lib.hid (fun w' a c n => RetP.none (w := w) (w' := w') { s with since := s.since + 1 } a c n)
  generalize hss : { s with since := s.since + 1 } = ss at *
  obtain ⟨s1, s2, s3, s4, st, s6, s7, s8, s9, s10, s11, s12, vs⟩ := s
  simp only at *
  have HSS := Lib.hid hss
  clear hss
  generalize hn : vs.length = n at *
  have HNN := Lib.hid hn
  generalize l.length = n' at *
  clear hn
  go_enter Try.func8, Try.ntmps8
  go_wp2_with fail
  have P0 : PW w.heap.size ((((w.alloc (.cells #[.int .i64 s1, .int .i64 s2, .int .i64 s3, .int .i64 s4, .bool st, .int .i64 s6, .int .i64 s7, .int .i64 s8, .int .i64 s9, .int .i64 s10, .int .i64 s11, .int .i64 s12, .slice a n c] 29)).alloc (.cells #[.int .i64 t1, .int .i64 t2, .int .i64 t3] 26)).alloc (.cells #[.int .i64 0, .int .i64 0, .int .i64 0, .int .i64 0, .bool false, .int .i64 0, .int .i64 0, .int .i64 0, .int .i64 0, .int .i64 0, .int .i64 0, .int .i64 0, .slice none 0 0] 29)).alloc (.cells #[.int .i64 s1, .int .i64 s2, .int .i64 s3, .int .i64 s4, .bool st, .int .i64 s6, .int .i64 s7, .int .i64 s8, .int .i64 s9, .int .i64 s10, .int .i64 s11, .int .i64 s12, .slice a n c] 29)) #[.int .i64 s1, .int .i64 s2, .int .i64 s3, .int .i64 s4, .bool st, .int .i64 s6, .int .i64 s7, .int .i64 s8, .int .i64 s9, .int .i64 s10, .int .i64 s11, .int .i64 s12, .slice a n c] #[.int .i64 t1, .int .i64 t2, .int .i64 t3] #[.int .i64 0, .int .i64 0, .int .i64 0, .int .i64 0, .bool false, .int .i64 0, .int .i64 0, .int .i64 0, .int .i64 0, .int .i64 0, .int .i64 0, .int .i64 0, .slice none 0 0] #[.int .i64 s1, .int .i64 s2, .int .i64 s3, .int .i64 s4, .bool st, .int .i64 s6, .int .i64 s7, .int .i64 s8, .int .i64 s9, .int .i64 s10, .int .i64 s11, .int .i64 s12, .slice a n c] := ⟨(((Bk.new w _ _ _ rfl).alloc _).alloc _).alloc _, ((Bk.new _ _ _ _ (by simp)).alloc _).alloc _, (Bk.new _ _ _ _ (by simp)).alloc _, Bk.new _ _ _ _ (by simp)⟩
  have X0 : Ext w ((((w.alloc (.cells #[.int .i64 s1, .int .i64 s2, .int .i64 s3, .int .i64 s4, .bool st, .int .i64 s6, .int .i64 s7, .int .i64 s8, .int .i64 s9, .int .i64 s10, .int .i64 s11, .int .i64 s12, .slice a n c] 29)).alloc (.cells #[.int .i64 t1, .int .i64 t2, .int .i64 t3] 26)).alloc (.cells #[.int .i64 0, .int .i64 0, .int .i64 0, .int .i64 0, .bool false, .int .i64 0, .int .i64 0, .int .i64 0, .int .i64 0, .int .i64 0, .int .i64 0, .int .i64 0, .slice none 0 0] 29)).alloc (.cells #[.int .i64 s1, .int .i64 s2, .int .i64 s3, .int .i64 s4, .bool st, .int .i64 s6, .int .i64 s7, .int .i64 s8, .int .i64 s9, .int .i64 s10, .int .i64 s11, .int .i64 s12, .slice a n c] 29)) := ((((Ext.refl w).alloc _).alloc _).alloc _).alloc _
  refine (HC.out _ X0).mono ?_
  generalize ((((w.alloc (.cells #[.int .i64 s1, .int .i64 s2, .int .i64 s3, .int .i64 s4, .bool st, .int .i64 s6, .int .i64 s7, .int .i64 s8, .int .i64 s9, .int .i64 s10, .int .i64 s11, .int .i64 s12, .slice a n c] 29)).alloc (.cells #[.int .i64 t1, .int .i64 t2, .int .i64 t3] 26)).alloc (.cells #[.int .i64 0, .int .i64 0, .int .i64 0, .int .i64 0, .bool false, .int .i64 0, .int .i64 0, .int .i64 0, .int .i64 0, .int .i64 0, .int .i64 0, .int .i64 0, .slice none 0 0] 29)).alloc (.cells #[.int .i64 s1, .int .i64 s2, .int .i64 s3, .int .i64 s4, .bool st, .int .i64 s6, .int .i64 s7, .int .i64 s8, .int .i64 s9, .int .i64 s10, .int .i64 s11, .int .i64 s12, .slice a n c] 29)) = W at *
  rintro e w1 ⟨a1, c1, he, x1, r1⟩
  rw [HNN.out] at he r1
  subst he
  have P1 := P0.ext x1
  have X1 := X0.trans x1
  have R1 := Lib.hid r1
  have HL3 := Lib.hid P0.b3.lt
  clear P0 r1
  have q0 := P1.b0.cell
  have q3 := P1.b3.cell
  have f3 := P1.b3.frozen
  have HP1 := Lib.hid P1
  have l3 := P1.b3.lt
  have lW := x1.size
  clear P1
  go_wp2_with fail
  have X2 := X1.setCell (p := ⟨w.heap.size + 1 + 1 + 1, 12, none⟩) (by simp; omega) (.slice a1 n c1)
  refine (HD.out _ X2).mono ?_
  rintro e w2 ⟨rfl, x2⟩
  have P2 := (HP1.out.set 12 (.slice a1 n c1)).ext x2
  have R2 := Lib.hid ((R1.out.agree (agree_setCell (p := ⟨w.heap.size + 1 + 1 + 1, 12, none⟩) (show Old W _ from HL3.out) (.slice a1 n c1))).ext x2)
  replace X2 := X2.trans x2
  have HX2 := Lib.hid X2
  have HX0 := Lib.hid X0
  clear q0 q3 f3 x2 X2 X1 x1 X0
  simp only [List.setIfInBounds_toArray, List.set_cons_succ, List.set_cons_zero] at P2
  have HP2 := Lib.hid P2
  have q0 := P2.b0.cell
  have q1 := P2.b1.cell
  have q2 := P2.b2.cell
  have f2 := P2.b2.frozen
  have q3 := P2.b3.cell
  have f3 := P2.b3.frozen
  have l3 := P2.b3.lt
  clear P2
  go_wp2_with fail
  change bodyPost _ _ _ _ _ (put (w2.setCell ⟨w.heap.size + 1 + 1 + 1, 7, none⟩ (.int .i64 (s8 + 1))) (w.heap.size + 1 + 1) 0 [.int .i64 s1, .int .i64 s2, .int .i64 s3, .int .i64 s4, .bool st, .int .i64 s6, .int .i64 s7, .int .i64 (s8 + 1), .int .i64 s9, .int .i64 s10, .int .i64 s11, .int .i64 s12, .slice a1 n c1])
  have P3 := (HP2.out.set 7 (.int .i64 (s8 + 1))).res [.int .i64 s1, .int .i64 s2, .int .i64 s3, .int .i64 s4, .bool st, .int .i64 s6, .int .i64 s7, .int .i64 (s8 + 1), .int .i64 s9, .int .i64 s10, .int .i64 s11, .int .i64 s12, .slice a1 n c1] rfl
  have X3 := put_ext (a := w) (B := w.heap.size + 1 + 1) (by omega) [.int .i64 s1, .int .i64 s2, .int .i64 s3, .int .i64 s4, .bool st, .int .i64 s6, .int .i64 s7, .int .i64 (s8 + 1), .int .i64 s9, .int .i64 s10, .int .i64 s11, .int .i64 s12, .slice a1 n c1] 0 _ (HX2.out.setCell (p := ⟨w.heap.size + 1 + 1 + 1, 7, none⟩) (by simp; omega) (.int .i64 (s8 + 1)))
  have R3 := ((R2.out.agree (agree_setCell (p := ⟨w.heap.size + 1 + 1 + 1, 7, none⟩) (show Old W _ from HL3.out) (.int .i64 (s8 + 1)))).agree (agree_put (V := Old W) (B := w.heap.size + 1 + 1) (show w.heap.size + 1 + 1 < W.heap.size by have := HL3.out; omega) [.int .i64 s1, .int .i64 s2, .int .i64 s3, .int .i64 s4, .bool st, .int .i64 s6, .int .i64 s7, .int .i64 (s8 + 1), .int .i64 s9, .int .i64 s10, .int .i64 s11, .int .i64 s12, .slice a1 n c1] 0 _)).weak (by omega) (V' := Old w) (fun g _ hg => HX0.out.lt hg)
  generalize put (w2.setCell ⟨w.heap.size + 1 + 1 + 1, 7, none⟩ (.int .i64 (s8 + 1))) (w.heap.size + 1 + 1) 0 [.int .i64 s1, .int .i64 s2, .int .i64 s3, .int .i64 s4, .bool st, .int .i64 s6, .int .i64 s7, .int .i64 (s8 + 1), .int .i64 s9, .int .i64 s10, .int .i64 s11, .int .i64 s12, .slice a1 n c1] = w3 at *
  have c3 := P3.b2.cell
  rw [← HSS.out] at HF ⊢
  exact bodyPost_ret (v := .tuple #[.agg #[.int .i64 s1, .int .i64 s2, .int .i64 s3, .int .i64 s4, .bool st, .int .i64 s6, .int .i64 s7, .int .i64 (s8 + 1), .int .i64 s9, .int .i64 s10, .int .i64 s11, .int .i64 s12, .slice a1 n c1], .slice none 0 0]) (by simp [results, Try.results8, go_sem, c3]) rfl (HF.out _ _ _ _ HNN.out X3 R3)
end Go.Proofs.Ytimnepfdpehdmaa
