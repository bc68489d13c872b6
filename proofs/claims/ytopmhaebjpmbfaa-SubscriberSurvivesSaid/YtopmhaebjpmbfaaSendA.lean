/- send: one step of a publisher and of a subscriber: layer 14. -/
import Derived.Test.YtopmhaebjpmbfaaSubE
import Derived.Test.YtopmhaebjpmbfaaPubL
import Derived.Test.YtopmhaebjpmbfaaInp
namespace Go.Proofs.Ytopmhaebjpmbfaa
open Go.RowKit
attribute [local go_sem ↓] Go.wp_at_zero Go.wp_at_succ

def sendPS (p : PSt) (s : SSt) (L : List Val) (lost : Bool) : PSt × SSt :=
  ((stepS p L 0 0 0).1, match (stepS p L 0 0 0).2 with | [x] => if lost = true then tickS s else (takeS (tickS s) x).1 | _ => tickS s)
def RetPS (w : World) (z : PSt × SSt) (e : Ending) (w' : World) : Prop := ∃ a c a' c', e = .returned (.tuple #[pubA z.1 (.slice a z.1.vals.length c), subA z.2 (.slice a' z.2.vals.length c')]) ∧ Ext w w' ∧ RF (Old w) 6 valE w' (.slice a z.1.vals.length c) z.1.vals ∧ RF (Old w) 6 valE w' (.slice a' z.2.vals.length c') z.2.vals
theorem stepS_len (p : PSt) (L : List Val) (a b c : Int) : (stepS p L a b c).2 = [] ∨ ∃ x, (stepS p L a b c).2 = [x] := by
  unfold stepS sendS
  split
  · exact .inl rfl
  · split <;> split
    · exact .inr ⟨_, rfl⟩
    · exact .inl rfl
    · exact .inr ⟨_, rfl⟩
    · exact .inl rfl
/-- What holds behind 'q, m := publisher.Step(p, ..)': q lies in block tb, p as before in block B; all else is newer than world A. -/
def AftP (A w wx : World) (B tb : Nat) (S : Array Value) (n : PSt) (ms : List Msg) (a5 : Option Addr) (c5 : Nat) (a6 : Option Addr) (c6 : Nat) : Prop :=
  Bk wx tb 28 (pubC n (.slice a5 n.vals.length c5)) ∧ Bk wx B 28 S ∧ w.heap.size ≤ tb ∧ RF (Old A) 6 valE wx (.slice a5 n.vals.length c5) n.vals ∧ RS Any 10 (msgRep Any) wx (.slice a6 ms.length c6) ms ∧ Ext w wx
section
variable {A w W w5 : World} {B tb : Nat} {S Z : Array Value} {n : PSt} {ms : List Msg} {a5 a6 : Option Addr} {c5 c6 : Nat}
theorem aftP_put (hA : A.heap.size ≤ w.heap.size) (hE : Ext w W) (x5 : Ext W w5) (hS : Bk W B 28 S) (hT : Bk W tb 28 Z) (hz : Z.size = 13) (hne : tb ≠ B) (hle : w.heap.size ≤ tb)
    (r5 : RF (Old W) 6 valE w5 (.slice a5 n.vals.length c5) n.vals) (m5 : RS (Old W) 10 (msgRep (Old W)) w5 (.slice a6 ms.length c6) ms) : AftP A w (put w5 tb 0 (pubC n (.slice a5 n.vals.length c5)).toList) B tb S n ms a5 c5 a6 c6 :=
  ⟨put_all (hT.ext x5) (by rw [hz]; rfl), put_other hne _ 0 _ (hS.ext x5), hle, (r5.agree (agree_put (V := Old W) hT.lt _ 0 _)).weak (by omega) (fun g _ hg => hE.lt (Nat.lt_of_lt_of_le hg hA)),
    RS.weak (RS.agree m5 (agree_put (V := Old W) hT.lt _ 0 _) (fun _ _ _ hm => msgRep.agree hm (agree_put (V := Old W) hT.lt _ 0 _))) (by omega) (fun _ _ h => h.elim) (fun _ _ _ hm => msgRep.any hm), put_ext hle _ 0 _ (hE.trans x5)⟩
theorem aftP_new (hA : A.heap.size ≤ w.heap.size) (hE : Ext w W) (x5 : Ext W w5) (hS : Bk W B 28 S)
    (r5 : RF (Old W) 6 valE w5 (.slice a5 n.vals.length c5) n.vals) (m5 : RS (Old W) 10 (msgRep (Old W)) w5 (.slice a6 ms.length c6) ms) : AftP A w (w5.alloc (.cells (pubC n (.slice a5 n.vals.length c5)) 28)) B w5.heap.size S n ms a5 c5 a6 c6 :=
  ⟨Bk.new _ _ _ _ rfl, (hS.ext x5).alloc _, (hE.trans x5).size, (r5.ext ((Ext.refl _).alloc _)).weak (by omega) (fun g _ hg => hE.lt (Nat.lt_of_lt_of_le hg hA)),
    RS.weak (RS.agree m5 (((Ext.refl w5).alloc _).agree _) (fun _ _ _ hm => msgRep.ext hm ((Ext.refl _).alloc _))) (by omega) (fun _ _ h => h.elim) (fun _ _ _ hm => msgRep.any hm), (hE.trans x5).alloc _⟩
end
set_option maxRecDepth 100000 in
set_option maxHeartbeats 16000000 in
theorem send_none (p : PSt) (s : SSt) (k : Int) (lost : Bool) (vp vs : Value) (w : World) (hp : RF Any 6 valE w vp p.vals) (hs : RF Any 6 valE w vs s.vals) (hpl : p.vals.length ≤ 1000000000) (hsl : s.vals.length ≤ 1000000000) (hm : Mod p) (hlf : s.left ≤ 1000000)
    (hms : (stepS p (valsOf k) 0 0 0).2 = []) : Calls Try.prog 41 #[pubA p vp, subA s vs, .int .i64 k, .bool lost] w (RetPS w ((stepS p (valsOf k) 0 0 0).1, tickS s)) := by
  have HV := Lib.hid (fun w1 => values_any k w1)
  have HT := Lib.hid (fun w1 (he : Ext w w1) => tick_any s vs w1 (hs.ext he) hsl hlf)
  have hvk : (valsOf k).length ≤ 1000000000 := by have := (vals_ok k).2; omega
  have HS := Lib.hid (fun w1 v u (h : RF Any 6 valE w1 v p.vals) (h2 : RF Any 6 valE w1 u (valsOf k)) => step_any p (valsOf k) 0 0 0 v u w1 h h2 hpl hvk hm)
  have HRP := Lib.hid (fun w1 (he : Ext w w1) => hp.ext he)
  obtain ⟨a, c, rfl, _, _⟩ := hp.form
  obtain ⟨a0, c0, rfl, _, _⟩ := hs.form
  have HF : Hid (∀ w' a c a' c', Ext w w' → RF (Old w) 6 valE w' (.slice a (stepS p (valsOf k) 0 0 0).1.vals.length c) (stepS p (valsOf k) 0 0 0).1.vals → RF (Old w) 6 valE w' (.slice a' (tickS s).vals.length c') (tickS s).vals → RetPS w ((stepS p (valsOf k) 0 0 0).1, tickS s) (.returned (.tuple #[pubA (stepS p (valsOf k) 0 0 0).1 (.slice a (stepS p (valsOf k) 0 0 0).1.vals.length c), subA (tickS s) (.slice a' (tickS s).vals.length c')])) w') := fun w' a c a' c' h1 h2 h3 => ⟨a, c, a', c', rfl, h1, h2, h3⟩
  generalize RetPS w ((stepS p (valsOf k) 0 0 0).1, tickS s) = R at *
  clear hp hs hpl hsl hm hlf hvk
  obtain ⟨z, hz⟩ : ∃ z, stepS p (valsOf k) 0 0 0 = z := ⟨_, rfl⟩
  rw [hz] at HS HF hms
  clear hz
  obtain ⟨q, ms⟩ := z
  simp only at HF hms
  subst hms
  generalize tickS s = t at *
  generalize valsOf k = L at *
  obtain ⟨p1, p2, p3, p4, p5, p6, p7, p8, p9, p10, p11, p12, vp⟩ := p
  obtain ⟨q1, q2, q3, q4, q5, q6, q7, q8, q9, q10, q11, q12, vq⟩ := q
  obtain ⟨s1, s2, s3, s4, s5, s6, s7, s8, vs⟩ := s
  obtain ⟨t1, t2, t3, t4, t5, t6, t7, t8, vt⟩ := t
  simp only at *
  generalize hn : vp.length = n at *
  have HNP := Lib.hid hn
  clear hn
  generalize hnq : vq.length = nq at *
  have HNQ := Lib.hid hnq
  clear hnq
  generalize hn0 : vs.length = n0 at *
  have HNS := Lib.hid hn0
  clear hn0
  generalize hnt : vt.length = nt at *
  have HNT := Lib.hid hnt
  clear hnt
  generalize hnl : L.length = nl at *
  have HNL := Lib.hid hnl
  clear hnl
  go_enter Try.func41, Try.ntmps41
  go_wp2_with fail
  have X0 : Ext w ((((w.alloc (.cells #[.int .i64 p1, .int .i64 p2, .int .i64 p3, .int .i64 p4, .bool p5, .int .i64 p6, .int .i64 p7, .int .i64 p8, .int .i64 p9, .int .i64 p10, .int .i64 p11, .int .i64 p12, .slice a n c] 28)).alloc (.cells #[.int .i64 s1, .int .i64 s2, .bool s3, .int .i64 s4, .int .i64 s5, .int .i64 s6, .int .i64 s7, .bool s8, .slice a0 n0 c0] 50)).alloc (.cells #[.int .i64 0, .int .i64 0, .int .i64 0, .int .i64 0, .bool false, .int .i64 0, .int .i64 0, .int .i64 0, .int .i64 0, .int .i64 0, .int .i64 0, .int .i64 0, .slice none 0 0] 28)).alloc (.cells #[.int .i64 0, .int .i64 0, .bool false, .int .i64 0, .int .i64 0, .int .i64 0, .int .i64 0, .bool false, .slice none 0 0] 50)) := ((((Ext.refl w).alloc _).alloc _).alloc _).alloc _
  have BP := Lib.hid ((((Bk.new w #[.int .i64 p1, .int .i64 p2, .int .i64 p3, .int .i64 p4, .bool p5, .int .i64 p6, .int .i64 p7, .int .i64 p8, .int .i64 p9, .int .i64 p10, .int .i64 p11, .int .i64 p12, .slice a n c] 28 w.heap.size rfl).alloc (.cells #[.int .i64 s1, .int .i64 s2, .bool s3, .int .i64 s4, .int .i64 s5, .int .i64 s6, .int .i64 s7, .bool s8, .slice a0 n0 c0] 50)).alloc (.cells #[.int .i64 0, .int .i64 0, .int .i64 0, .int .i64 0, .bool false, .int .i64 0, .int .i64 0, .int .i64 0, .int .i64 0, .int .i64 0, .int .i64 0, .int .i64 0, .slice none 0 0] 28)).alloc (.cells #[.int .i64 0, .int .i64 0, .bool false, .int .i64 0, .int .i64 0, .int .i64 0, .int .i64 0, .bool false, .slice none 0 0] 50))
  have BS := Lib.hid (((Bk.new (w.alloc (.cells #[.int .i64 p1, .int .i64 p2, .int .i64 p3, .int .i64 p4, .bool p5, .int .i64 p6, .int .i64 p7, .int .i64 p8, .int .i64 p9, .int .i64 p10, .int .i64 p11, .int .i64 p12, .slice a n c] 28)) #[.int .i64 s1, .int .i64 s2, .bool s3, .int .i64 s4, .int .i64 s5, .int .i64 s6, .int .i64 s7, .bool s8, .slice a0 n0 c0] 50 (w.heap.size + 1) (by simp)).alloc (.cells #[.int .i64 0, .int .i64 0, .int .i64 0, .int .i64 0, .bool false, .int .i64 0, .int .i64 0, .int .i64 0, .int .i64 0, .int .i64 0, .int .i64 0, .int .i64 0, .slice none 0 0] 28)).alloc (.cells #[.int .i64 0, .int .i64 0, .bool false, .int .i64 0, .int .i64 0, .int .i64 0, .int .i64 0, .bool false, .slice none 0 0] 50))
  have B8 := Lib.hid ((Bk.new ((w.alloc (.cells #[.int .i64 p1, .int .i64 p2, .int .i64 p3, .int .i64 p4, .bool p5, .int .i64 p6, .int .i64 p7, .int .i64 p8, .int .i64 p9, .int .i64 p10, .int .i64 p11, .int .i64 p12, .slice a n c] 28)).alloc (.cells #[.int .i64 s1, .int .i64 s2, .bool s3, .int .i64 s4, .int .i64 s5, .int .i64 s6, .int .i64 s7, .bool s8, .slice a0 n0 c0] 50)) #[.int .i64 0, .int .i64 0, .int .i64 0, .int .i64 0, .bool false, .int .i64 0, .int .i64 0, .int .i64 0, .int .i64 0, .int .i64 0, .int .i64 0, .int .i64 0, .slice none 0 0] 28 (w.heap.size + 1 + 1) (by simp)).alloc (.cells #[.int .i64 0, .int .i64 0, .bool false, .int .i64 0, .int .i64 0, .int .i64 0, .int .i64 0, .bool false, .slice none 0 0] 50))
  have B9 := Lib.hid (Bk.new (((w.alloc (.cells #[.int .i64 p1, .int .i64 p2, .int .i64 p3, .int .i64 p4, .bool p5, .int .i64 p6, .int .i64 p7, .int .i64 p8, .int .i64 p9, .int .i64 p10, .int .i64 p11, .int .i64 p12, .slice a n c] 28)).alloc (.cells #[.int .i64 s1, .int .i64 s2, .bool s3, .int .i64 s4, .int .i64 s5, .int .i64 s6, .int .i64 s7, .bool s8, .slice a0 n0 c0] 50)).alloc (.cells #[.int .i64 0, .int .i64 0, .int .i64 0, .int .i64 0, .bool false, .int .i64 0, .int .i64 0, .int .i64 0, .int .i64 0, .int .i64 0, .int .i64 0, .int .i64 0, .slice none 0 0] 28)) #[.int .i64 0, .int .i64 0, .bool false, .int .i64 0, .int .i64 0, .int .i64 0, .int .i64 0, .bool false, .slice none 0 0] 50 (w.heap.size + 1 + 1 + 1) (by simp))
  refine (HT.out _ X0).mono ?_
  generalize (((w.alloc (.cells #[.int .i64 p1, .int .i64 p2, .int .i64 p3, .int .i64 p4, .bool p5, .int .i64 p6, .int .i64 p7, .int .i64 p8, .int .i64 p9, .int .i64 p10, .int .i64 p11, .int .i64 p12, .slice a n c] 28)).alloc (.cells #[.int .i64 s1, .int .i64 s2, .bool s3, .int .i64 s4, .int .i64 s5, .int .i64 s6, .int .i64 s7, .bool s8, .slice a0 n0 c0] 50)).alloc (.cells #[.int .i64 0, .int .i64 0, .int .i64 0, .int .i64 0, .bool false, .int .i64 0, .int .i64 0, .int .i64 0, .int .i64 0, .int .i64 0, .int .i64 0, .int .i64 0, .slice none 0 0] 28)).alloc (.cells #[.int .i64 0, .int .i64 0, .bool false, .int .i64 0, .int .i64 0, .int .i64 0, .int .i64 0, .bool false, .slice none 0 0] 50) = W at *
  have lSW := BS.out.lt
  have l8W := B8.out.lt
  have l9W := B9.out.lt
  rintro e w1 ⟨a1, c1, he, x1, r1⟩
  simp only [HNT.out] at he r1
  subst he
  have BS1 := Lib.hid (BS.out.ext x1)
  have q1s := BS1.out.cell
  have f1s := BS1.out.frozen
  go_upto_region 2 with fail
  change Code.wp _ _ _ _ (put w1 (w.heap.size + 1) 0 [.int .i64 t1, .int .i64 t2, .bool t3, .int .i64 t4, .int .i64 t5, .int .i64 t6, .int .i64 t7, .bool t8, .slice a1 nt c1])
  have BS2 := Lib.hid (put_all (vs := [.int .i64 t1, .int .i64 t2, .bool t3, .int .i64 t4, .int .i64 t5, .int .i64 t6, .int .i64 t7, .bool t8, .slice a1 nt c1]) BS1.out rfl)
  have BP2 := Lib.hid (put_other (B' := (w.heap.size + 1)) (by omega) [.int .i64 t1, .int .i64 t2, .bool t3, .int .i64 t4, .int .i64 t5, .int .i64 t6, .int .i64 t7, .bool t8, .slice a1 nt c1] 0 _ (BP.out.ext x1))
  have B82 := Lib.hid (put_other (B' := (w.heap.size + 1)) (by omega) [.int .i64 t1, .int .i64 t2, .bool t3, .int .i64 t4, .int .i64 t5, .int .i64 t6, .int .i64 t7, .bool t8, .slice a1 nt c1] 0 _ (B8.out.ext x1))
  have B92 := Lib.hid (put_other (B' := (w.heap.size + 1)) (by omega) [.int .i64 t1, .int .i64 t2, .bool t3, .int .i64 t4, .int .i64 t5, .int .i64 t6, .int .i64 t7, .bool t8, .slice a1 nt c1] 0 _ (B9.out.ext x1))
  have RT2 := Lib.hid (r1.agree (agree_put (V := Old W) (B := (w.heap.size + 1)) lSW [.int .i64 t1, .int .i64 t2, .bool t3, .int .i64 t4, .int .i64 t5, .int .i64 t6, .int .i64 t7, .bool t8, .slice a1 nt c1] 0 w1))
  have X2 := Lib.hid (put_ext (a := w) (B := (w.heap.size + 1)) (by omega) [.int .i64 t1, .int .i64 t2, .bool t3, .int .i64 t4, .int .i64 t5, .int .i64 t6, .int .i64 t7, .bool t8, .slice a1 nt c1] 0 _ (X0.trans x1))
  have hAW : W.heap.size ≤ (put w1 (w.heap.size + 1) 0 [.int .i64 t1, .int .i64 t2, .bool t3, .int .i64 t4, .int .i64 t5, .int .i64 t6, .int .i64 t7, .bool t8, .slice a1 nt c1]).heap.size := by rw [put_size]; exact x1.size
  clear q1s f1s HT
  generalize put w1 (w.heap.size + 1) 0 [.int .i64 t1, .int .i64 t2, .bool t3, .int .i64 t4, .int .i64 t5, .int .i64 t6, .int .i64 t7, .bool t8, .slice a1 nt c1] = w2 at *
  have lB0 := BP2.out.lt
  have q0 := BP2.out.cell
  have HBA : Hid (∀ w', Ext w2 w' → Bk w' w.heap.size 28 #[.int .i64 p1, .int .i64 p2, .int .i64 p3, .int .i64 p4, .bool p5, .int .i64 p6, .int .i64 p7, .int .i64 p8, .int .i64 p9, .int .i64 p10, .int .i64 p11, .int .i64 p12, .slice a n c]) := fun w' he => BP2.out.ext he
  have HBC := Lib.hid (fun w' (he : Ext w2 w') => (HBA.out w' he).cell)
  have HRA := Lib.hid (fun w' (he : Ext w2 w') => HRP.out _ (X2.out.trans he))
  clear HRP BS BP B8 B9 BS1 r1
  go_upto_region 2 with fail
  go_cut [10, 11] (fun t m wx => ∃ (nb : Nat) (a5 : Option Addr) (c5 : Nat) (a6 : Option Addr) (c6 : Nat), t = .pointer (some ⟨nb, 0, none⟩) ∧ m = .slice a6 0 c6 ∧ AftP W w2 wx w.heap.size nb #[.int .i64 p1, .int .i64 p2, .int .i64 p3, .int .i64 p4, .bool p5, .int .i64 p6, .int .i64 p7, .int .i64 p8, .int .i64 p9, .int .i64 p10, .int .i64 p11, .int .i64 p12, .slice a n c] ⟨q1, q2, q3, q4, q5, q6, q7, q8, q9, q10, q11, q12, vq⟩ [] a5 c5 a6 c6)
  case first =>
    go_region_held3 (fun w' => ∀ j, w'.cell? ⟨w.heap.size, j, none⟩ = (#[.int .i64 p1, .int .i64 p2, .int .i64 p3, .int .i64 p4, .bool p5, .int .i64 p6, .int .i64 p7, .int .i64 p8, .int .i64 p9, .int .i64 p10, .int .i64 p11, .int .i64 p12, .slice a n c] : Array Value)[j]?)
      (first | (with_reducible exact q0) | (exact HBC.out _ (by first | (with_reducible exact (Ext.refl w2).drew) | (with_reducible exact ((Ext.refl w2).alloc _).drew) | (with_reducible exact (Ext.refl w2).drew.alloc _) | (with_reducible exact E4) | (with_reducible exact E4.alloc _) | (with_reducible exact E5) | (with_reducible exact E5.alloc _) | (with_reducible exact (Ext.refl w2)))) | (intro j; (repeat rw [World.cell?_setCell_other _ _ _ _ (by first | (simp; done) | (simp; omega))]); with_reducible exact HBC.out _ E5 j) | fail)
      (first
        | (go_at_call 18; (with_reducible refine (HV.out _).mono ?_); rintro e w4 ⟨a4, c4, he, x4, r4⟩; rw [HNL.out] at he r4; subst he; have E4 : Ext w2 w4 := Ext.trans (by first | (with_reducible exact (Ext.refl w2).drew) | (with_reducible exact ((Ext.refl w2).alloc _).drew) | (with_reducible exact (Ext.refl w2).drew.alloc _)) x4; have lB4 : w.heap.size < w4.heap.size := E4.lt lB0; (first | (with_reducible have T4 := Lib.hid ((Bk.new w2 #[.int .i64 0, .int .i64 0, .int .i64 0, .int .i64 0, .bool false, .int .i64 0, .int .i64 0, .int .i64 0, .int .i64 0, .int .i64 0, .int .i64 0, .int .i64 0, .slice none 0 0] 28 w2.heap.size rfl).drew.ext x4)) | (with_reducible have T4 := Lib.hid ((Bk.new w2.drew #[.int .i64 0, .int .i64 0, .int .i64 0, .int .i64 0, .bool false, .int .i64 0, .int .i64 0, .int .i64 0, .int .i64 0, .int .i64 0, .int .i64 0, .int .i64 0, .slice none 0 0] 28 w2.heap.size rfl).ext x4)) | (have T4 := Lib.hid True.intro)); have Ha4 := Lib.hid (fun w' (he : Ext w4 w') => (r4.ext he).weak (by omega) (V' := Any) (fun _ _ h => h.elim)); clear r4)
        | (go_at_call 17; (with_reducible refine (HS.out _ _ _ (HRA.out _ (by first | (with_reducible exact E4) | (with_reducible exact E4.alloc _))) (Ha4.out _ (by first | (with_reducible exact Ext.refl w4) | (with_reducible exact (Ext.refl w4).alloc _)))).mono ?_); rintro e w5 ⟨a5, c5, a6, c6, he, x5, r5, m5⟩; simp only [HNQ.out, List.length_nil] at he; subst he; have E5 : Ext w2 w5 := Ext.trans (by first | (with_reducible exact E4) | (with_reducible exact E4.alloc _)) x5; (first | (with_reducible have T5 := Lib.hid ((Bk.new w4 #[.int .i64 0, .int .i64 0, .int .i64 0, .int .i64 0, .bool false, .int .i64 0, .int .i64 0, .int .i64 0, .int .i64 0, .int .i64 0, .int .i64 0, .int .i64 0, .slice none 0 0] 28 w4.heap.size rfl).ext x5)) | (with_reducible have T5 := Lib.hid (T4.out.ext x5)) | (have T5 := Lib.hid True.intro)); (try have tc5 := T5.out.cell); (try have tf5 := T5.out.frozen))
        | fail)
    all_goals
      first
        | (with_reducible have hA0 := aftP_put (A := W) (n := ⟨q1, q2, q3, q4, q5, q6, q7, q8, q9, q10, q11, q12, vq⟩) hAW (E4.alloc (.cells #[.int .i64 0, .int .i64 0, .int .i64 0, .int .i64 0, .bool false, .int .i64 0, .int .i64 0, .int .i64 0, .int .i64 0, .int .i64 0, .int .i64 0, .int .i64 0, .slice none 0 0] 28)) x5 (HBA.out _ (E4.alloc _)) (Bk.new w4 #[.int .i64 0, .int .i64 0, .int .i64 0, .int .i64 0, .bool false, .int .i64 0, .int .i64 0, .int .i64 0, .int .i64 0, .int .i64 0, .int .i64 0, .int .i64 0, .slice none 0 0] 28 w4.heap.size rfl) rfl (by omega) (E4.size) r5 m5
           have hA : AftP W w2 (put w5 w4.heap.size 0 [.int .i64 q1, .int .i64 q2, .int .i64 q3, .int .i64 q4, .bool q5, .int .i64 q6, .int .i64 q7, .int .i64 q8, .int .i64 q9, .int .i64 q10, .int .i64 q11, .int .i64 q12, .slice a5 nq c5]) w.heap.size w4.heap.size #[.int .i64 p1, .int .i64 p2, .int .i64 p3, .int .i64 p4, .bool p5, .int .i64 p6, .int .i64 p7, .int .i64 p8, .int .i64 p9, .int .i64 p10, .int .i64 p11, .int .i64 p12, .slice a n c] ⟨q1, q2, q3, q4, q5, q6, q7, q8, q9, q10, q11, q12, vq⟩ [] a5 c5 a6 c6 := by simpa only [HNQ.out] using hA0
           clear hA0
           change Exit.then _ _ _ _ (put w5 w4.heap.size 0 [.int .i64 q1, .int .i64 q2, .int .i64 q3, .int .i64 q4, .bool q5, .int .i64 q6, .int .i64 q7, .int .i64 q8, .int .i64 q9, .int .i64 q10, .int .i64 q11, .int .i64 q12, .slice a5 nq c5])
           generalize put w5 w4.heap.size 0 [.int .i64 q1, .int .i64 q2, .int .i64 q3, .int .i64 q4, .bool q5, .int .i64 q6, .int .i64 q7, .int .i64 q8, .int .i64 q9, .int .i64 q10, .int .i64 q11, .int .i64 q12, .slice a5 nq c5] = w6 at *
           have HA := Lib.hid hA
           clear hA
           go_wp2_with fail
           go_meet
           exact ⟨w4.heap.size, a5, c5, a6, c6, rfl, rfl, HA.out⟩)
        | (with_reducible have hA0 := aftP_put (A := W) (n := ⟨q1, q2, q3, q4, q5, q6, q7, q8, q9, q10, q11, q12, vq⟩) hAW (E4) x5 (HBA.out _ E4) ((show Bk w4 w2.heap.size 28 #[.int .i64 0, .int .i64 0, .int .i64 0, .int .i64 0, .bool false, .int .i64 0, .int .i64 0, .int .i64 0, .int .i64 0, .int .i64 0, .int .i64 0, .int .i64 0, .slice none 0 0] from T4.out)) rfl (by omega) (Nat.le_refl _) r5 m5
           have hA : AftP W w2 (put w5 w2.heap.size 0 [.int .i64 q1, .int .i64 q2, .int .i64 q3, .int .i64 q4, .bool q5, .int .i64 q6, .int .i64 q7, .int .i64 q8, .int .i64 q9, .int .i64 q10, .int .i64 q11, .int .i64 q12, .slice a5 nq c5]) w.heap.size w2.heap.size #[.int .i64 p1, .int .i64 p2, .int .i64 p3, .int .i64 p4, .bool p5, .int .i64 p6, .int .i64 p7, .int .i64 p8, .int .i64 p9, .int .i64 p10, .int .i64 p11, .int .i64 p12, .slice a n c] ⟨q1, q2, q3, q4, q5, q6, q7, q8, q9, q10, q11, q12, vq⟩ [] a5 c5 a6 c6 := by simpa only [HNQ.out] using hA0
           clear hA0
           change Exit.then _ _ _ _ (put w5 w2.heap.size 0 [.int .i64 q1, .int .i64 q2, .int .i64 q3, .int .i64 q4, .bool q5, .int .i64 q6, .int .i64 q7, .int .i64 q8, .int .i64 q9, .int .i64 q10, .int .i64 q11, .int .i64 q12, .slice a5 nq c5])
           generalize put w5 w2.heap.size 0 [.int .i64 q1, .int .i64 q2, .int .i64 q3, .int .i64 q4, .bool q5, .int .i64 q6, .int .i64 q7, .int .i64 q8, .int .i64 q9, .int .i64 q10, .int .i64 q11, .int .i64 q12, .slice a5 nq c5] = w6 at *
           have HA := Lib.hid hA
           clear hA
           go_wp2_with fail
           go_meet
           exact ⟨w2.heap.size, a5, c5, a6, c6, rfl, rfl, HA.out⟩)
        | (have hA0 := aftP_new (A := W) (n := ⟨q1, q2, q3, q4, q5, q6, q7, q8, q9, q10, q11, q12, vq⟩) hAW E4 x5 (HBA.out _ E4) r5 m5
           have hA : AftP W w2 (w5.alloc (.cells #[.int .i64 q1, .int .i64 q2, .int .i64 q3, .int .i64 q4, .bool q5, .int .i64 q6, .int .i64 q7, .int .i64 q8, .int .i64 q9, .int .i64 q10, .int .i64 q11, .int .i64 q12, .slice a5 nq c5] 28)) w.heap.size w5.heap.size #[.int .i64 p1, .int .i64 p2, .int .i64 p3, .int .i64 p4, .bool p5, .int .i64 p6, .int .i64 p7, .int .i64 p8, .int .i64 p9, .int .i64 p10, .int .i64 p11, .int .i64 p12, .slice a n c] ⟨q1, q2, q3, q4, q5, q6, q7, q8, q9, q10, q11, q12, vq⟩ [] a5 c5 a6 c6 := by simpa only [HNQ.out] using hA0
           clear hA0
           generalize w5.alloc (.cells #[.int .i64 q1, .int .i64 q2, .int .i64 q3, .int .i64 q4, .bool q5, .int .i64 q6, .int .i64 q7, .int .i64 q8, .int .i64 q9, .int .i64 q10, .int .i64 q11, .int .i64 q12, .slice a5 nq c5] 28) = w6 at *
           have HA := Lib.hid hA
           clear hA
           go_wp2_with fail
           go_meet
           exact ⟨w5.heap.size, a5, c5, a6, c6, rfl, rfl, HA.out⟩)
  case rest =>
    obtain ⟨tb, a5, c5, a6, c6, rfl, rfl, hT, hP, hle, hR5, hM5, hx5⟩ := hcut
    simp only [HNQ.out] at hT hR5
    have BT := Lib.hid (show Bk wc tb 28 #[.int .i64 q1, .int .i64 q2, .int .i64 q3, .int .i64 q4, .bool q5, .int .i64 q6, .int .i64 q7, .int .i64 q8, .int .i64 q9, .int .i64 q10, .int .i64 q11, .int .i64 q12, .slice a5 nq c5] from hT)
    have BS3 := Lib.hid (BS2.out.ext hx5)
    have B83 := Lib.hid (B82.out.ext hx5)
    have B93 := Lib.hid (B92.out.ext hx5)
    have RQ := Lib.hid hR5
    have RT3 := Lib.hid (RT2.out.ext hx5)
    have X3 := Lib.hid (X2.out.trans hx5)
    clear hT hP hR5 hx5 q0 HBC HBA HRA HS HV
    clear hM5
    have BTy := BT
    have BSy := BS3
    have B8y := B83
    have B9y := B93
    have RQy := RQ
    have RTy := RT3
    have Xy := X3
    obtain ⟨wy, hwy⟩ : ∃ wy, wy = wc := ⟨_, rfl⟩
    subst hwy
    have qt := BTy.out.cell
    have qs := BSy.out.cell
    have ht2 : (w.heap.size + 1 + 1 + 1) < tb := by have := hle; omega
    have hq8 := B8y.out.cell
    have hf8 := B8y.out.frozen
    have hq9 := B9y.out.cell
    have hf9 := B9y.out.frozen
    have HKK := Lib.hid (And.intro qt qs)
    have HKD : Hid ((∀ j, wy.drew.cell? ⟨tb, j, none⟩ = (#[.int .i64 q1, .int .i64 q2, .int .i64 q3, .int .i64 q4, .bool q5, .int .i64 q6, .int .i64 q7, .int .i64 q8, .int .i64 q9, .int .i64 q10, .int .i64 q11, .int .i64 q12, .slice a5 nq c5] : Array Value)[j]?) ∧ (∀ j, wy.drew.cell? ⟨(w.heap.size + 1), j, none⟩ = (#[.int .i64 t1, .int .i64 t2, .bool t3, .int .i64 t4, .int .i64 t5, .int .i64 t6, .int .i64 t7, .bool t8, .slice a1 nt c1] : Array Value)[j]?)) := ⟨BTy.out.drew.cell, BSy.out.drew.cell⟩
    go_upto_region 5 with fail
    go_region_held3 (fun w' => (∀ j, w'.cell? ⟨tb, j, none⟩ = (#[.int .i64 q1, .int .i64 q2, .int .i64 q3, .int .i64 q4, .bool q5, .int .i64 q6, .int .i64 q7, .int .i64 q8, .int .i64 q9, .int .i64 q10, .int .i64 q11, .int .i64 q12, .slice a5 nq c5] : Array Value)[j]?) ∧ (∀ j, w'.cell? ⟨(w.heap.size + 1), j, none⟩ = (#[.int .i64 t1, .int .i64 t2, .bool t3, .int .i64 t4, .int .i64 t5, .int .i64 t6, .int .i64 t7, .bool t8, .slice a1 nt c1] : Array Value)[j]?))
      (first | (with_reducible exact HKK.out) | (with_reducible exact HKD.out) | (refine ⟨fun j => ?_, fun j => ?_⟩ <;> (try rw [World.cell?_drew]) <;> (repeat rw [World.cell?_setCell_other _ _ _ _ (by first | (simp; done) | (simp; omega))]) <;> first | (with_reducible exact HKK.out.1 j) | (with_reducible exact HKK.out.2 j) | (with_reducible exact HKD.out.1 j) | (with_reducible exact HKD.out.2 j)) | fail)
      (fail)
    all_goals
      clear hq8 hf8 hq9 hf9
      first
      | (obtain ⟨w9, hW9⟩ : ∃ w9, (put (put wy (w.heap.size + 1 + 1) 0 [.int .i64 q1, .int .i64 q2, .int .i64 q3, .int .i64 q4, .bool q5, .int .i64 q6, .int .i64 q7, .int .i64 q8, .int .i64 q9, .int .i64 q10, .int .i64 q11, .int .i64 q12, .slice a5 nq c5]) (w.heap.size + 1 + 1 + 1) 0 [.int .i64 t1, .int .i64 t2, .bool t3, .int .i64 t4, .int .i64 t5, .int .i64 t6, .int .i64 t7, .bool t8, .slice a1 nt c1]).drew = w9 := ⟨_, rfl⟩
         have hW8 := hW9
         simp only [put, Nat.reduceAdd] at hW8
         rw [hW8]
         clear hW8
         have C1 := (put_other (B := (w.heap.size + 1 + 1)) (B' := (w.heap.size + 1 + 1 + 1)) (by omega) [.int .i64 t1, .int .i64 t2, .bool t3, .int .i64 t4, .int .i64 t5, .int .i64 t6, .int .i64 t7, .bool t8, .slice a1 nt c1] 0 _ (put_all (vs := [.int .i64 q1, .int .i64 q2, .int .i64 q3, .int .i64 q4, .bool q5, .int .i64 q6, .int .i64 q7, .int .i64 q8, .int .i64 q9, .int .i64 q10, .int .i64 q11, .int .i64 q12, .slice a5 nq c5]) B8y.out rfl)).drew
         have C2 := (put_all (vs := [.int .i64 t1, .int .i64 t2, .bool t3, .int .i64 t4, .int .i64 t5, .int .i64 t6, .int .i64 t7, .bool t8, .slice a1 nt c1]) (put_other (B := (w.heap.size + 1 + 1 + 1)) (B' := (w.heap.size + 1 + 1)) (by omega) [.int .i64 q1, .int .i64 q2, .int .i64 q3, .int .i64 q4, .bool q5, .int .i64 q6, .int .i64 q7, .int .i64 q8, .int .i64 q9, .int .i64 q10, .int .i64 q11, .int .i64 q12, .slice a5 nq c5] 0 _ B9y.out) rfl).drew
         have X9 := put_ext (a := w) (B := (w.heap.size + 1 + 1 + 1)) (by omega) [.int .i64 t1, .int .i64 t2, .bool t3, .int .i64 t4, .int .i64 t5, .int .i64 t6, .int .i64 t7, .bool t8, .slice a1 nt c1] 0 _ (put_ext (a := w) (B := (w.heap.size + 1 + 1)) (by omega) [.int .i64 q1, .int .i64 q2, .int .i64 q3, .int .i64 q4, .bool q5, .int .i64 q6, .int .i64 q7, .int .i64 q8, .int .i64 q9, .int .i64 q10, .int .i64 q11, .int .i64 q12, .slice a5 nq c5] 0 _ Xy.out)
         replace X9 := X9.drew
         have RQ9 := ((((RQy.out.agree (agree_put (V := Old W) (B := (w.heap.size + 1 + 1)) (show (w.heap.size + 1 + 1) < W.heap.size from l8W) [.int .i64 q1, .int .i64 q2, .int .i64 q3, .int .i64 q4, .bool q5, .int .i64 q6, .int .i64 q7, .int .i64 q8, .int .i64 q9, .int .i64 q10, .int .i64 q11, .int .i64 q12, .slice a5 nq c5] 0 wy)).agree (agree_put (V := Old W) (B := (w.heap.size + 1 + 1 + 1)) (show (w.heap.size + 1 + 1 + 1) < W.heap.size from l9W) [.int .i64 t1, .int .i64 t2, .bool t3, .int .i64 t4, .int .i64 t5, .int .i64 t6, .int .i64 t7, .bool t8, .slice a1 nt c1] 0 _))).ext (Ext.refl _).drew).weak (by omega) (V' := Old w) (fun g _ hg => X0.lt hg)
         have RT9 := ((((RTy.out.agree (agree_put (V := Old W) (B := (w.heap.size + 1 + 1)) (show (w.heap.size + 1 + 1) < W.heap.size from l8W) [.int .i64 q1, .int .i64 q2, .int .i64 q3, .int .i64 q4, .bool q5, .int .i64 q6, .int .i64 q7, .int .i64 q8, .int .i64 q9, .int .i64 q10, .int .i64 q11, .int .i64 q12, .slice a5 nq c5] 0 wy)).agree (agree_put (V := Old W) (B := (w.heap.size + 1 + 1 + 1)) (show (w.heap.size + 1 + 1 + 1) < W.heap.size from l9W) [.int .i64 t1, .int .i64 t2, .bool t3, .int .i64 t4, .int .i64 t5, .int .i64 t6, .int .i64 t7, .bool t8, .slice a1 nt c1] 0 _))).ext (Ext.refl _).drew).weak (by omega) (V' := Old w) (fun g _ hg => X0.lt hg)
         rw [hW9] at C1 C2 X9 RQ9 RT9
         clear hW9
         have ck1 := C1.cell
         have ck2 := C2.cell
         have HC1 := Lib.hid C1
         have HC2 := Lib.hid C2
         clear C1 C2 qt qs
         go_wp2_with fail
         exact bodyPost_ret (v := .tuple #[.agg #[.int .i64 q1, .int .i64 q2, .int .i64 q3, .int .i64 q4, .bool q5, .int .i64 q6, .int .i64 q7, .int .i64 q8, .int .i64 q9, .int .i64 q10, .int .i64 q11, .int .i64 q12, .slice a5 nq c5], .agg #[.int .i64 t1, .int .i64 t2, .bool t3, .int .i64 t4, .int .i64 t5, .int .i64 t6, .int .i64 t7, .bool t8, .slice a1 nt c1]]) (by simp [results, Try.results41, go_sem, ck1, ck2]) rfl (HF.out _ _ _ _ _ X9 RQ9 RT9))
      | (obtain ⟨w9, hW9⟩ : ∃ w9, (put (put wy (w.heap.size + 1 + 1 + 1) 0 [.int .i64 t1, .int .i64 t2, .bool t3, .int .i64 t4, .int .i64 t5, .int .i64 t6, .int .i64 t7, .bool t8, .slice a1 nt c1]) (w.heap.size + 1 + 1) 0 [.int .i64 q1, .int .i64 q2, .int .i64 q3, .int .i64 q4, .bool q5, .int .i64 q6, .int .i64 q7, .int .i64 q8, .int .i64 q9, .int .i64 q10, .int .i64 q11, .int .i64 q12, .slice a5 nq c5]).drew = w9 := ⟨_, rfl⟩
         have hW8 := hW9
         simp only [put, Nat.reduceAdd] at hW8
         rw [hW8]
         clear hW8
         have C1 := (put_other (B := (w.heap.size + 1 + 1 + 1)) (B' := (w.heap.size + 1 + 1)) (by omega) [.int .i64 q1, .int .i64 q2, .int .i64 q3, .int .i64 q4, .bool q5, .int .i64 q6, .int .i64 q7, .int .i64 q8, .int .i64 q9, .int .i64 q10, .int .i64 q11, .int .i64 q12, .slice a5 nq c5] 0 _ (put_all (vs := [.int .i64 t1, .int .i64 t2, .bool t3, .int .i64 t4, .int .i64 t5, .int .i64 t6, .int .i64 t7, .bool t8, .slice a1 nt c1]) B9y.out rfl)).drew
         have C2 := (put_all (vs := [.int .i64 q1, .int .i64 q2, .int .i64 q3, .int .i64 q4, .bool q5, .int .i64 q6, .int .i64 q7, .int .i64 q8, .int .i64 q9, .int .i64 q10, .int .i64 q11, .int .i64 q12, .slice a5 nq c5]) (put_other (B := (w.heap.size + 1 + 1)) (B' := (w.heap.size + 1 + 1 + 1)) (by omega) [.int .i64 t1, .int .i64 t2, .bool t3, .int .i64 t4, .int .i64 t5, .int .i64 t6, .int .i64 t7, .bool t8, .slice a1 nt c1] 0 _ B8y.out) rfl).drew
         have X9 := put_ext (a := w) (B := (w.heap.size + 1 + 1)) (by omega) [.int .i64 q1, .int .i64 q2, .int .i64 q3, .int .i64 q4, .bool q5, .int .i64 q6, .int .i64 q7, .int .i64 q8, .int .i64 q9, .int .i64 q10, .int .i64 q11, .int .i64 q12, .slice a5 nq c5] 0 _ (put_ext (a := w) (B := (w.heap.size + 1 + 1 + 1)) (by omega) [.int .i64 t1, .int .i64 t2, .bool t3, .int .i64 t4, .int .i64 t5, .int .i64 t6, .int .i64 t7, .bool t8, .slice a1 nt c1] 0 _ Xy.out)
         replace X9 := X9.drew
         have RQ9 := ((((RQy.out.agree (agree_put (V := Old W) (B := (w.heap.size + 1 + 1 + 1)) (show (w.heap.size + 1 + 1 + 1) < W.heap.size from l9W) [.int .i64 t1, .int .i64 t2, .bool t3, .int .i64 t4, .int .i64 t5, .int .i64 t6, .int .i64 t7, .bool t8, .slice a1 nt c1] 0 wy)).agree (agree_put (V := Old W) (B := (w.heap.size + 1 + 1)) (show (w.heap.size + 1 + 1) < W.heap.size from l8W) [.int .i64 q1, .int .i64 q2, .int .i64 q3, .int .i64 q4, .bool q5, .int .i64 q6, .int .i64 q7, .int .i64 q8, .int .i64 q9, .int .i64 q10, .int .i64 q11, .int .i64 q12, .slice a5 nq c5] 0 _))).ext (Ext.refl _).drew).weak (by omega) (V' := Old w) (fun g _ hg => X0.lt hg)
         have RT9 := ((((RTy.out.agree (agree_put (V := Old W) (B := (w.heap.size + 1 + 1 + 1)) (show (w.heap.size + 1 + 1 + 1) < W.heap.size from l9W) [.int .i64 t1, .int .i64 t2, .bool t3, .int .i64 t4, .int .i64 t5, .int .i64 t6, .int .i64 t7, .bool t8, .slice a1 nt c1] 0 wy)).agree (agree_put (V := Old W) (B := (w.heap.size + 1 + 1)) (show (w.heap.size + 1 + 1) < W.heap.size from l8W) [.int .i64 q1, .int .i64 q2, .int .i64 q3, .int .i64 q4, .bool q5, .int .i64 q6, .int .i64 q7, .int .i64 q8, .int .i64 q9, .int .i64 q10, .int .i64 q11, .int .i64 q12, .slice a5 nq c5] 0 _))).ext (Ext.refl _).drew).weak (by omega) (V' := Old w) (fun g _ hg => X0.lt hg)
         rw [hW9] at C1 C2 X9 RQ9 RT9
         clear hW9
         have ck1 := C1.cell
         have ck2 := C2.cell
         have HC1 := Lib.hid C1
         have HC2 := Lib.hid C2
         clear C1 C2 qt qs
         go_wp2_with fail
         exact bodyPost_ret (v := .tuple #[.agg #[.int .i64 q1, .int .i64 q2, .int .i64 q3, .int .i64 q4, .bool q5, .int .i64 q6, .int .i64 q7, .int .i64 q8, .int .i64 q9, .int .i64 q10, .int .i64 q11, .int .i64 q12, .slice a5 nq c5], .agg #[.int .i64 t1, .int .i64 t2, .bool t3, .int .i64 t4, .int .i64 t5, .int .i64 t6, .int .i64 t7, .bool t8, .slice a1 nt c1]]) (by simp [results, Try.results41, go_sem, ck1, ck2]) rfl (HF.out _ _ _ _ _ X9 RQ9 RT9))
set_option maxRecDepth 100000 in
set_option maxHeartbeats 16000000 in
theorem send_lost (p : PSt) (s : SSt) (k : Int) (vp vs : Value) (w : World) (hp : RF Any 6 valE w vp p.vals) (hs : RF Any 6 valE w vs s.vals) (hpl : p.vals.length ≤ 1000000000) (hsl : s.vals.length ≤ 1000000000) (hm : Mod p) (hlf : s.left ≤ 1000000)
    (x : Msg) (hms : (stepS p (valsOf k) 0 0 0).2 = [x]) : Calls Try.prog 41 #[pubA p vp, subA s vs, .int .i64 k, .bool true] w (RetPS w ((stepS p (valsOf k) 0 0 0).1, tickS s)) := by
  have HV := Lib.hid (fun w1 => values_any k w1)
  have HT := Lib.hid (fun w1 (he : Ext w w1) => tick_any s vs w1 (hs.ext he) hsl hlf)
  have hvk : (valsOf k).length ≤ 1000000000 := by have := (vals_ok k).2; omega
  have HS := Lib.hid (fun w1 v u (h : RF Any 6 valE w1 v p.vals) (h2 : RF Any 6 valE w1 u (valsOf k)) => step_any p (valsOf k) 0 0 0 v u w1 h h2 hpl hvk hm)
  have HRP := Lib.hid (fun w1 (he : Ext w w1) => hp.ext he)
  obtain ⟨a, c, rfl, _, _⟩ := hp.form
  obtain ⟨a0, c0, rfl, _, _⟩ := hs.form
  have HF : Hid (∀ w' a c a' c', Ext w w' → RF (Old w) 6 valE w' (.slice a (stepS p (valsOf k) 0 0 0).1.vals.length c) (stepS p (valsOf k) 0 0 0).1.vals → RF (Old w) 6 valE w' (.slice a' (tickS s).vals.length c') (tickS s).vals → RetPS w ((stepS p (valsOf k) 0 0 0).1, tickS s) (.returned (.tuple #[pubA (stepS p (valsOf k) 0 0 0).1 (.slice a (stepS p (valsOf k) 0 0 0).1.vals.length c), subA (tickS s) (.slice a' (tickS s).vals.length c')])) w') := fun w' a c a' c' h1 h2 h3 => ⟨a, c, a', c', rfl, h1, h2, h3⟩
  generalize RetPS w ((stepS p (valsOf k) 0 0 0).1, tickS s) = R at *
  clear hp hs hpl hsl hm hlf hvk
  obtain ⟨z, hz⟩ : ∃ z, stepS p (valsOf k) 0 0 0 = z := ⟨_, rfl⟩
  rw [hz] at HS HF hms
  clear hz
  obtain ⟨q, ms⟩ := z
  simp only at HF hms
  subst hms
  generalize tickS s = t at *
  generalize valsOf k = L at *
  obtain ⟨p1, p2, p3, p4, p5, p6, p7, p8, p9, p10, p11, p12, vp⟩ := p
  obtain ⟨q1, q2, q3, q4, q5, q6, q7, q8, q9, q10, q11, q12, vq⟩ := q
  obtain ⟨s1, s2, s3, s4, s5, s6, s7, s8, vs⟩ := s
  obtain ⟨t1, t2, t3, t4, t5, t6, t7, t8, vt⟩ := t
  obtain ⟨y1, y2, y3, y4, y5, y6, y7, y8, y9, vx⟩ := x
  simp only at *
  generalize hn : vp.length = n at *
  have HNP := Lib.hid hn
  clear hn
  generalize hnq : vq.length = nq at *
  have HNQ := Lib.hid hnq
  clear hnq
  generalize hn0 : vs.length = n0 at *
  have HNS := Lib.hid hn0
  clear hn0
  generalize hnt : vt.length = nt at *
  have HNT := Lib.hid hnt
  clear hnt
  generalize hnl : L.length = nl at *
  have HNL := Lib.hid hnl
  clear hnl
  generalize hnx : vx.length = nx at *
  have HNX := Lib.hid hnx
  clear hnx
  go_enter Try.func41, Try.ntmps41
  go_wp2_with fail
  have X0 : Ext w ((((w.alloc (.cells #[.int .i64 p1, .int .i64 p2, .int .i64 p3, .int .i64 p4, .bool p5, .int .i64 p6, .int .i64 p7, .int .i64 p8, .int .i64 p9, .int .i64 p10, .int .i64 p11, .int .i64 p12, .slice a n c] 28)).alloc (.cells #[.int .i64 s1, .int .i64 s2, .bool s3, .int .i64 s4, .int .i64 s5, .int .i64 s6, .int .i64 s7, .bool s8, .slice a0 n0 c0] 50)).alloc (.cells #[.int .i64 0, .int .i64 0, .int .i64 0, .int .i64 0, .bool false, .int .i64 0, .int .i64 0, .int .i64 0, .int .i64 0, .int .i64 0, .int .i64 0, .int .i64 0, .slice none 0 0] 28)).alloc (.cells #[.int .i64 0, .int .i64 0, .bool false, .int .i64 0, .int .i64 0, .int .i64 0, .int .i64 0, .bool false, .slice none 0 0] 50)) := ((((Ext.refl w).alloc _).alloc _).alloc _).alloc _
  have BP := Lib.hid ((((Bk.new w #[.int .i64 p1, .int .i64 p2, .int .i64 p3, .int .i64 p4, .bool p5, .int .i64 p6, .int .i64 p7, .int .i64 p8, .int .i64 p9, .int .i64 p10, .int .i64 p11, .int .i64 p12, .slice a n c] 28 w.heap.size rfl).alloc (.cells #[.int .i64 s1, .int .i64 s2, .bool s3, .int .i64 s4, .int .i64 s5, .int .i64 s6, .int .i64 s7, .bool s8, .slice a0 n0 c0] 50)).alloc (.cells #[.int .i64 0, .int .i64 0, .int .i64 0, .int .i64 0, .bool false, .int .i64 0, .int .i64 0, .int .i64 0, .int .i64 0, .int .i64 0, .int .i64 0, .int .i64 0, .slice none 0 0] 28)).alloc (.cells #[.int .i64 0, .int .i64 0, .bool false, .int .i64 0, .int .i64 0, .int .i64 0, .int .i64 0, .bool false, .slice none 0 0] 50))
  have BS := Lib.hid (((Bk.new (w.alloc (.cells #[.int .i64 p1, .int .i64 p2, .int .i64 p3, .int .i64 p4, .bool p5, .int .i64 p6, .int .i64 p7, .int .i64 p8, .int .i64 p9, .int .i64 p10, .int .i64 p11, .int .i64 p12, .slice a n c] 28)) #[.int .i64 s1, .int .i64 s2, .bool s3, .int .i64 s4, .int .i64 s5, .int .i64 s6, .int .i64 s7, .bool s8, .slice a0 n0 c0] 50 (w.heap.size + 1) (by simp)).alloc (.cells #[.int .i64 0, .int .i64 0, .int .i64 0, .int .i64 0, .bool false, .int .i64 0, .int .i64 0, .int .i64 0, .int .i64 0, .int .i64 0, .int .i64 0, .int .i64 0, .slice none 0 0] 28)).alloc (.cells #[.int .i64 0, .int .i64 0, .bool false, .int .i64 0, .int .i64 0, .int .i64 0, .int .i64 0, .bool false, .slice none 0 0] 50))
  have B8 := Lib.hid ((Bk.new ((w.alloc (.cells #[.int .i64 p1, .int .i64 p2, .int .i64 p3, .int .i64 p4, .bool p5, .int .i64 p6, .int .i64 p7, .int .i64 p8, .int .i64 p9, .int .i64 p10, .int .i64 p11, .int .i64 p12, .slice a n c] 28)).alloc (.cells #[.int .i64 s1, .int .i64 s2, .bool s3, .int .i64 s4, .int .i64 s5, .int .i64 s6, .int .i64 s7, .bool s8, .slice a0 n0 c0] 50)) #[.int .i64 0, .int .i64 0, .int .i64 0, .int .i64 0, .bool false, .int .i64 0, .int .i64 0, .int .i64 0, .int .i64 0, .int .i64 0, .int .i64 0, .int .i64 0, .slice none 0 0] 28 (w.heap.size + 1 + 1) (by simp)).alloc (.cells #[.int .i64 0, .int .i64 0, .bool false, .int .i64 0, .int .i64 0, .int .i64 0, .int .i64 0, .bool false, .slice none 0 0] 50))
  have B9 := Lib.hid (Bk.new (((w.alloc (.cells #[.int .i64 p1, .int .i64 p2, .int .i64 p3, .int .i64 p4, .bool p5, .int .i64 p6, .int .i64 p7, .int .i64 p8, .int .i64 p9, .int .i64 p10, .int .i64 p11, .int .i64 p12, .slice a n c] 28)).alloc (.cells #[.int .i64 s1, .int .i64 s2, .bool s3, .int .i64 s4, .int .i64 s5, .int .i64 s6, .int .i64 s7, .bool s8, .slice a0 n0 c0] 50)).alloc (.cells #[.int .i64 0, .int .i64 0, .int .i64 0, .int .i64 0, .bool false, .int .i64 0, .int .i64 0, .int .i64 0, .int .i64 0, .int .i64 0, .int .i64 0, .int .i64 0, .slice none 0 0] 28)) #[.int .i64 0, .int .i64 0, .bool false, .int .i64 0, .int .i64 0, .int .i64 0, .int .i64 0, .bool false, .slice none 0 0] 50 (w.heap.size + 1 + 1 + 1) (by simp))
  refine (HT.out _ X0).mono ?_
  generalize (((w.alloc (.cells #[.int .i64 p1, .int .i64 p2, .int .i64 p3, .int .i64 p4, .bool p5, .int .i64 p6, .int .i64 p7, .int .i64 p8, .int .i64 p9, .int .i64 p10, .int .i64 p11, .int .i64 p12, .slice a n c] 28)).alloc (.cells #[.int .i64 s1, .int .i64 s2, .bool s3, .int .i64 s4, .int .i64 s5, .int .i64 s6, .int .i64 s7, .bool s8, .slice a0 n0 c0] 50)).alloc (.cells #[.int .i64 0, .int .i64 0, .int .i64 0, .int .i64 0, .bool false, .int .i64 0, .int .i64 0, .int .i64 0, .int .i64 0, .int .i64 0, .int .i64 0, .int .i64 0, .slice none 0 0] 28)).alloc (.cells #[.int .i64 0, .int .i64 0, .bool false, .int .i64 0, .int .i64 0, .int .i64 0, .int .i64 0, .bool false, .slice none 0 0] 50) = W at *
  have lSW := BS.out.lt
  have l8W := B8.out.lt
  have l9W := B9.out.lt
  rintro e w1 ⟨a1, c1, he, x1, r1⟩
  simp only [HNT.out] at he r1
  subst he
  have BS1 := Lib.hid (BS.out.ext x1)
  have q1s := BS1.out.cell
  have f1s := BS1.out.frozen
  go_upto_region 2 with fail
  change Code.wp _ _ _ _ (put w1 (w.heap.size + 1) 0 [.int .i64 t1, .int .i64 t2, .bool t3, .int .i64 t4, .int .i64 t5, .int .i64 t6, .int .i64 t7, .bool t8, .slice a1 nt c1])
  have BS2 := Lib.hid (put_all (vs := [.int .i64 t1, .int .i64 t2, .bool t3, .int .i64 t4, .int .i64 t5, .int .i64 t6, .int .i64 t7, .bool t8, .slice a1 nt c1]) BS1.out rfl)
  have BP2 := Lib.hid (put_other (B' := (w.heap.size + 1)) (by omega) [.int .i64 t1, .int .i64 t2, .bool t3, .int .i64 t4, .int .i64 t5, .int .i64 t6, .int .i64 t7, .bool t8, .slice a1 nt c1] 0 _ (BP.out.ext x1))
  have B82 := Lib.hid (put_other (B' := (w.heap.size + 1)) (by omega) [.int .i64 t1, .int .i64 t2, .bool t3, .int .i64 t4, .int .i64 t5, .int .i64 t6, .int .i64 t7, .bool t8, .slice a1 nt c1] 0 _ (B8.out.ext x1))
  have B92 := Lib.hid (put_other (B' := (w.heap.size + 1)) (by omega) [.int .i64 t1, .int .i64 t2, .bool t3, .int .i64 t4, .int .i64 t5, .int .i64 t6, .int .i64 t7, .bool t8, .slice a1 nt c1] 0 _ (B9.out.ext x1))
  have RT2 := Lib.hid (r1.agree (agree_put (V := Old W) (B := (w.heap.size + 1)) lSW [.int .i64 t1, .int .i64 t2, .bool t3, .int .i64 t4, .int .i64 t5, .int .i64 t6, .int .i64 t7, .bool t8, .slice a1 nt c1] 0 w1))
  have X2 := Lib.hid (put_ext (a := w) (B := (w.heap.size + 1)) (by omega) [.int .i64 t1, .int .i64 t2, .bool t3, .int .i64 t4, .int .i64 t5, .int .i64 t6, .int .i64 t7, .bool t8, .slice a1 nt c1] 0 _ (X0.trans x1))
  have hAW : W.heap.size ≤ (put w1 (w.heap.size + 1) 0 [.int .i64 t1, .int .i64 t2, .bool t3, .int .i64 t4, .int .i64 t5, .int .i64 t6, .int .i64 t7, .bool t8, .slice a1 nt c1]).heap.size := by rw [put_size]; exact x1.size
  clear q1s f1s HT
  generalize put w1 (w.heap.size + 1) 0 [.int .i64 t1, .int .i64 t2, .bool t3, .int .i64 t4, .int .i64 t5, .int .i64 t6, .int .i64 t7, .bool t8, .slice a1 nt c1] = w2 at *
  have lB0 := BP2.out.lt
  have q0 := BP2.out.cell
  have HBA : Hid (∀ w', Ext w2 w' → Bk w' w.heap.size 28 #[.int .i64 p1, .int .i64 p2, .int .i64 p3, .int .i64 p4, .bool p5, .int .i64 p6, .int .i64 p7, .int .i64 p8, .int .i64 p9, .int .i64 p10, .int .i64 p11, .int .i64 p12, .slice a n c]) := fun w' he => BP2.out.ext he
  have HBC := Lib.hid (fun w' (he : Ext w2 w') => (HBA.out w' he).cell)
  have HRA := Lib.hid (fun w' (he : Ext w2 w') => HRP.out _ (X2.out.trans he))
  clear HRP BS BP B8 B9 BS1 r1
  go_upto_region 2 with fail
  go_cut [10, 11] (fun t m wx => ∃ (nb : Nat) (a5 : Option Addr) (c5 : Nat) (a6 : Option Addr) (c6 : Nat), t = .pointer (some ⟨nb, 0, none⟩) ∧ m = .slice a6 1 c6 ∧ AftP W w2 wx w.heap.size nb #[.int .i64 p1, .int .i64 p2, .int .i64 p3, .int .i64 p4, .bool p5, .int .i64 p6, .int .i64 p7, .int .i64 p8, .int .i64 p9, .int .i64 p10, .int .i64 p11, .int .i64 p12, .slice a n c] ⟨q1, q2, q3, q4, q5, q6, q7, q8, q9, q10, q11, q12, vq⟩ [⟨y1, y2, y3, y4, y5, y6, y7, y8, y9, vx⟩] a5 c5 a6 c6)
  case first =>
    go_region_held3 (fun w' => ∀ j, w'.cell? ⟨w.heap.size, j, none⟩ = (#[.int .i64 p1, .int .i64 p2, .int .i64 p3, .int .i64 p4, .bool p5, .int .i64 p6, .int .i64 p7, .int .i64 p8, .int .i64 p9, .int .i64 p10, .int .i64 p11, .int .i64 p12, .slice a n c] : Array Value)[j]?)
      (first | (with_reducible exact q0) | (exact HBC.out _ (by first | (with_reducible exact (Ext.refl w2).drew) | (with_reducible exact ((Ext.refl w2).alloc _).drew) | (with_reducible exact (Ext.refl w2).drew.alloc _) | (with_reducible exact E4) | (with_reducible exact E4.alloc _) | (with_reducible exact E5) | (with_reducible exact E5.alloc _) | (with_reducible exact (Ext.refl w2)))) | (intro j; (repeat rw [World.cell?_setCell_other _ _ _ _ (by first | (simp; done) | (simp; omega))]); with_reducible exact HBC.out _ E5 j) | fail)
      (first
        | (go_at_call 18; (with_reducible refine (HV.out _).mono ?_); rintro e w4 ⟨a4, c4, he, x4, r4⟩; rw [HNL.out] at he r4; subst he; have E4 : Ext w2 w4 := Ext.trans (by first | (with_reducible exact (Ext.refl w2).drew) | (with_reducible exact ((Ext.refl w2).alloc _).drew) | (with_reducible exact (Ext.refl w2).drew.alloc _)) x4; have lB4 : w.heap.size < w4.heap.size := E4.lt lB0; (first | (with_reducible have T4 := Lib.hid ((Bk.new w2 #[.int .i64 0, .int .i64 0, .int .i64 0, .int .i64 0, .bool false, .int .i64 0, .int .i64 0, .int .i64 0, .int .i64 0, .int .i64 0, .int .i64 0, .int .i64 0, .slice none 0 0] 28 w2.heap.size rfl).drew.ext x4)) | (with_reducible have T4 := Lib.hid ((Bk.new w2.drew #[.int .i64 0, .int .i64 0, .int .i64 0, .int .i64 0, .bool false, .int .i64 0, .int .i64 0, .int .i64 0, .int .i64 0, .int .i64 0, .int .i64 0, .int .i64 0, .slice none 0 0] 28 w2.heap.size rfl).ext x4)) | (have T4 := Lib.hid True.intro)); have Ha4 := Lib.hid (fun w' (he : Ext w4 w') => (r4.ext he).weak (by omega) (V' := Any) (fun _ _ h => h.elim)); clear r4)
        | (go_at_call 17; (with_reducible refine (HS.out _ _ _ (HRA.out _ (by first | (with_reducible exact E4) | (with_reducible exact E4.alloc _))) (Ha4.out _ (by first | (with_reducible exact Ext.refl w4) | (with_reducible exact (Ext.refl w4).alloc _)))).mono ?_); rintro e w5 ⟨a5, c5, a6, c6, he, x5, r5, m5⟩; simp only [HNQ.out, List.length_cons, List.length_nil, Nat.zero_add] at he; subst he; have E5 : Ext w2 w5 := Ext.trans (by first | (with_reducible exact E4) | (with_reducible exact E4.alloc _)) x5; (first | (with_reducible have T5 := Lib.hid ((Bk.new w4 #[.int .i64 0, .int .i64 0, .int .i64 0, .int .i64 0, .bool false, .int .i64 0, .int .i64 0, .int .i64 0, .int .i64 0, .int .i64 0, .int .i64 0, .int .i64 0, .slice none 0 0] 28 w4.heap.size rfl).ext x5)) | (with_reducible have T5 := Lib.hid (T4.out.ext x5)) | (have T5 := Lib.hid True.intro)); (try have tc5 := T5.out.cell); (try have tf5 := T5.out.frozen))
        | fail)
    all_goals
      first
        | (with_reducible have hA0 := aftP_put (A := W) (n := ⟨q1, q2, q3, q4, q5, q6, q7, q8, q9, q10, q11, q12, vq⟩) hAW (E4.alloc (.cells #[.int .i64 0, .int .i64 0, .int .i64 0, .int .i64 0, .bool false, .int .i64 0, .int .i64 0, .int .i64 0, .int .i64 0, .int .i64 0, .int .i64 0, .int .i64 0, .slice none 0 0] 28)) x5 (HBA.out _ (E4.alloc _)) (Bk.new w4 #[.int .i64 0, .int .i64 0, .int .i64 0, .int .i64 0, .bool false, .int .i64 0, .int .i64 0, .int .i64 0, .int .i64 0, .int .i64 0, .int .i64 0, .int .i64 0, .slice none 0 0] 28 w4.heap.size rfl) rfl (by omega) (E4.size) r5 m5
           have hA : AftP W w2 (put w5 w4.heap.size 0 [.int .i64 q1, .int .i64 q2, .int .i64 q3, .int .i64 q4, .bool q5, .int .i64 q6, .int .i64 q7, .int .i64 q8, .int .i64 q9, .int .i64 q10, .int .i64 q11, .int .i64 q12, .slice a5 nq c5]) w.heap.size w4.heap.size #[.int .i64 p1, .int .i64 p2, .int .i64 p3, .int .i64 p4, .bool p5, .int .i64 p6, .int .i64 p7, .int .i64 p8, .int .i64 p9, .int .i64 p10, .int .i64 p11, .int .i64 p12, .slice a n c] ⟨q1, q2, q3, q4, q5, q6, q7, q8, q9, q10, q11, q12, vq⟩ [⟨y1, y2, y3, y4, y5, y6, y7, y8, y9, vx⟩] a5 c5 a6 c6 := by simpa only [HNQ.out] using hA0
           clear hA0
           change Exit.then _ _ _ _ (put w5 w4.heap.size 0 [.int .i64 q1, .int .i64 q2, .int .i64 q3, .int .i64 q4, .bool q5, .int .i64 q6, .int .i64 q7, .int .i64 q8, .int .i64 q9, .int .i64 q10, .int .i64 q11, .int .i64 q12, .slice a5 nq c5])
           generalize put w5 w4.heap.size 0 [.int .i64 q1, .int .i64 q2, .int .i64 q3, .int .i64 q4, .bool q5, .int .i64 q6, .int .i64 q7, .int .i64 q8, .int .i64 q9, .int .i64 q10, .int .i64 q11, .int .i64 q12, .slice a5 nq c5] = w6 at *
           have HA := Lib.hid hA
           clear hA
           go_wp2_with fail
           go_meet
           exact ⟨w4.heap.size, a5, c5, a6, c6, rfl, rfl, HA.out⟩)
        | (with_reducible have hA0 := aftP_put (A := W) (n := ⟨q1, q2, q3, q4, q5, q6, q7, q8, q9, q10, q11, q12, vq⟩) hAW (E4) x5 (HBA.out _ E4) ((show Bk w4 w2.heap.size 28 #[.int .i64 0, .int .i64 0, .int .i64 0, .int .i64 0, .bool false, .int .i64 0, .int .i64 0, .int .i64 0, .int .i64 0, .int .i64 0, .int .i64 0, .int .i64 0, .slice none 0 0] from T4.out)) rfl (by omega) (Nat.le_refl _) r5 m5
           have hA : AftP W w2 (put w5 w2.heap.size 0 [.int .i64 q1, .int .i64 q2, .int .i64 q3, .int .i64 q4, .bool q5, .int .i64 q6, .int .i64 q7, .int .i64 q8, .int .i64 q9, .int .i64 q10, .int .i64 q11, .int .i64 q12, .slice a5 nq c5]) w.heap.size w2.heap.size #[.int .i64 p1, .int .i64 p2, .int .i64 p3, .int .i64 p4, .bool p5, .int .i64 p6, .int .i64 p7, .int .i64 p8, .int .i64 p9, .int .i64 p10, .int .i64 p11, .int .i64 p12, .slice a n c] ⟨q1, q2, q3, q4, q5, q6, q7, q8, q9, q10, q11, q12, vq⟩ [⟨y1, y2, y3, y4, y5, y6, y7, y8, y9, vx⟩] a5 c5 a6 c6 := by simpa only [HNQ.out] using hA0
           clear hA0
           change Exit.then _ _ _ _ (put w5 w2.heap.size 0 [.int .i64 q1, .int .i64 q2, .int .i64 q3, .int .i64 q4, .bool q5, .int .i64 q6, .int .i64 q7, .int .i64 q8, .int .i64 q9, .int .i64 q10, .int .i64 q11, .int .i64 q12, .slice a5 nq c5])
           generalize put w5 w2.heap.size 0 [.int .i64 q1, .int .i64 q2, .int .i64 q3, .int .i64 q4, .bool q5, .int .i64 q6, .int .i64 q7, .int .i64 q8, .int .i64 q9, .int .i64 q10, .int .i64 q11, .int .i64 q12, .slice a5 nq c5] = w6 at *
           have HA := Lib.hid hA
           clear hA
           go_wp2_with fail
           go_meet
           exact ⟨w2.heap.size, a5, c5, a6, c6, rfl, rfl, HA.out⟩)
        | (have hA0 := aftP_new (A := W) (n := ⟨q1, q2, q3, q4, q5, q6, q7, q8, q9, q10, q11, q12, vq⟩) hAW E4 x5 (HBA.out _ E4) r5 m5
           have hA : AftP W w2 (w5.alloc (.cells #[.int .i64 q1, .int .i64 q2, .int .i64 q3, .int .i64 q4, .bool q5, .int .i64 q6, .int .i64 q7, .int .i64 q8, .int .i64 q9, .int .i64 q10, .int .i64 q11, .int .i64 q12, .slice a5 nq c5] 28)) w.heap.size w5.heap.size #[.int .i64 p1, .int .i64 p2, .int .i64 p3, .int .i64 p4, .bool p5, .int .i64 p6, .int .i64 p7, .int .i64 p8, .int .i64 p9, .int .i64 p10, .int .i64 p11, .int .i64 p12, .slice a n c] ⟨q1, q2, q3, q4, q5, q6, q7, q8, q9, q10, q11, q12, vq⟩ [⟨y1, y2, y3, y4, y5, y6, y7, y8, y9, vx⟩] a5 c5 a6 c6 := by simpa only [HNQ.out] using hA0
           clear hA0
           generalize w5.alloc (.cells #[.int .i64 q1, .int .i64 q2, .int .i64 q3, .int .i64 q4, .bool q5, .int .i64 q6, .int .i64 q7, .int .i64 q8, .int .i64 q9, .int .i64 q10, .int .i64 q11, .int .i64 q12, .slice a5 nq c5] 28) = w6 at *
           have HA := Lib.hid hA
           clear hA
           go_wp2_with fail
           go_meet
           exact ⟨w5.heap.size, a5, c5, a6, c6, rfl, rfl, HA.out⟩)
  case rest =>
    obtain ⟨tb, a5, c5, a6, c6, rfl, rfl, hT, hP, hle, hR5, hM5, hx5⟩ := hcut
    simp only [HNQ.out] at hT hR5
    have BT := Lib.hid (show Bk wc tb 28 #[.int .i64 q1, .int .i64 q2, .int .i64 q3, .int .i64 q4, .bool q5, .int .i64 q6, .int .i64 q7, .int .i64 q8, .int .i64 q9, .int .i64 q10, .int .i64 q11, .int .i64 q12, .slice a5 nq c5] from hT)
    have BS3 := Lib.hid (BS2.out.ext hx5)
    have B83 := Lib.hid (B82.out.ext hx5)
    have B93 := Lib.hid (B92.out.ext hx5)
    have RQ := Lib.hid hR5
    have RT3 := Lib.hid (RT2.out.ext hx5)
    have X3 := Lib.hid (X2.out.trans hx5)
    clear hT hP hR5 hx5 q0 HBC HBA HRA HS HV
    clear hM5
    have BTy := BT
    have BSy := BS3
    have B8y := B83
    have B9y := B93
    have RQy := RQ
    have RTy := RT3
    have Xy := X3
    obtain ⟨wy, hwy⟩ : ∃ wy, wy = wc := ⟨_, rfl⟩
    subst hwy
    have qt := BTy.out.cell
    have qs := BSy.out.cell
    have ht2 : (w.heap.size + 1 + 1 + 1) < tb := by have := hle; omega
    have hq8 := B8y.out.cell
    have hf8 := B8y.out.frozen
    have hq9 := B9y.out.cell
    have hf9 := B9y.out.frozen
    have HKK := Lib.hid (And.intro qt qs)
    have HKD : Hid ((∀ j, wy.drew.cell? ⟨tb, j, none⟩ = (#[.int .i64 q1, .int .i64 q2, .int .i64 q3, .int .i64 q4, .bool q5, .int .i64 q6, .int .i64 q7, .int .i64 q8, .int .i64 q9, .int .i64 q10, .int .i64 q11, .int .i64 q12, .slice a5 nq c5] : Array Value)[j]?) ∧ (∀ j, wy.drew.cell? ⟨(w.heap.size + 1), j, none⟩ = (#[.int .i64 t1, .int .i64 t2, .bool t3, .int .i64 t4, .int .i64 t5, .int .i64 t6, .int .i64 t7, .bool t8, .slice a1 nt c1] : Array Value)[j]?)) := ⟨BTy.out.drew.cell, BSy.out.drew.cell⟩
    go_upto_region 5 with fail
    go_region_held3 (fun w' => (∀ j, w'.cell? ⟨tb, j, none⟩ = (#[.int .i64 q1, .int .i64 q2, .int .i64 q3, .int .i64 q4, .bool q5, .int .i64 q6, .int .i64 q7, .int .i64 q8, .int .i64 q9, .int .i64 q10, .int .i64 q11, .int .i64 q12, .slice a5 nq c5] : Array Value)[j]?) ∧ (∀ j, w'.cell? ⟨(w.heap.size + 1), j, none⟩ = (#[.int .i64 t1, .int .i64 t2, .bool t3, .int .i64 t4, .int .i64 t5, .int .i64 t6, .int .i64 t7, .bool t8, .slice a1 nt c1] : Array Value)[j]?))
      (first | (with_reducible exact HKK.out) | (with_reducible exact HKD.out) | (refine ⟨fun j => ?_, fun j => ?_⟩ <;> (try rw [World.cell?_drew]) <;> (repeat rw [World.cell?_setCell_other _ _ _ _ (by first | (simp; done) | (simp; omega))]) <;> first | (with_reducible exact HKK.out.1 j) | (with_reducible exact HKK.out.2 j) | (with_reducible exact HKD.out.1 j) | (with_reducible exact HKD.out.2 j)) | fail)
      (fail)
    all_goals
      clear hq8 hf8 hq9 hf9
      first
      | (obtain ⟨w9, hW9⟩ : ∃ w9, (put (put wy (w.heap.size + 1 + 1) 0 [.int .i64 q1, .int .i64 q2, .int .i64 q3, .int .i64 q4, .bool q5, .int .i64 q6, .int .i64 q7, .int .i64 q8, .int .i64 q9, .int .i64 q10, .int .i64 q11, .int .i64 q12, .slice a5 nq c5]) (w.heap.size + 1 + 1 + 1) 0 [.int .i64 t1, .int .i64 t2, .bool t3, .int .i64 t4, .int .i64 t5, .int .i64 t6, .int .i64 t7, .bool t8, .slice a1 nt c1]).drew = w9 := ⟨_, rfl⟩
         have hW8 := hW9
         simp only [put, Nat.reduceAdd] at hW8
         rw [hW8]
         clear hW8
         have C1 := (put_other (B := (w.heap.size + 1 + 1)) (B' := (w.heap.size + 1 + 1 + 1)) (by omega) [.int .i64 t1, .int .i64 t2, .bool t3, .int .i64 t4, .int .i64 t5, .int .i64 t6, .int .i64 t7, .bool t8, .slice a1 nt c1] 0 _ (put_all (vs := [.int .i64 q1, .int .i64 q2, .int .i64 q3, .int .i64 q4, .bool q5, .int .i64 q6, .int .i64 q7, .int .i64 q8, .int .i64 q9, .int .i64 q10, .int .i64 q11, .int .i64 q12, .slice a5 nq c5]) B8y.out rfl)).drew
         have C2 := (put_all (vs := [.int .i64 t1, .int .i64 t2, .bool t3, .int .i64 t4, .int .i64 t5, .int .i64 t6, .int .i64 t7, .bool t8, .slice a1 nt c1]) (put_other (B := (w.heap.size + 1 + 1 + 1)) (B' := (w.heap.size + 1 + 1)) (by omega) [.int .i64 q1, .int .i64 q2, .int .i64 q3, .int .i64 q4, .bool q5, .int .i64 q6, .int .i64 q7, .int .i64 q8, .int .i64 q9, .int .i64 q10, .int .i64 q11, .int .i64 q12, .slice a5 nq c5] 0 _ B9y.out) rfl).drew
         have X9 := put_ext (a := w) (B := (w.heap.size + 1 + 1 + 1)) (by omega) [.int .i64 t1, .int .i64 t2, .bool t3, .int .i64 t4, .int .i64 t5, .int .i64 t6, .int .i64 t7, .bool t8, .slice a1 nt c1] 0 _ (put_ext (a := w) (B := (w.heap.size + 1 + 1)) (by omega) [.int .i64 q1, .int .i64 q2, .int .i64 q3, .int .i64 q4, .bool q5, .int .i64 q6, .int .i64 q7, .int .i64 q8, .int .i64 q9, .int .i64 q10, .int .i64 q11, .int .i64 q12, .slice a5 nq c5] 0 _ Xy.out)
         replace X9 := X9.drew
         have RQ9 := ((((RQy.out.agree (agree_put (V := Old W) (B := (w.heap.size + 1 + 1)) (show (w.heap.size + 1 + 1) < W.heap.size from l8W) [.int .i64 q1, .int .i64 q2, .int .i64 q3, .int .i64 q4, .bool q5, .int .i64 q6, .int .i64 q7, .int .i64 q8, .int .i64 q9, .int .i64 q10, .int .i64 q11, .int .i64 q12, .slice a5 nq c5] 0 wy)).agree (agree_put (V := Old W) (B := (w.heap.size + 1 + 1 + 1)) (show (w.heap.size + 1 + 1 + 1) < W.heap.size from l9W) [.int .i64 t1, .int .i64 t2, .bool t3, .int .i64 t4, .int .i64 t5, .int .i64 t6, .int .i64 t7, .bool t8, .slice a1 nt c1] 0 _))).ext (Ext.refl _).drew).weak (by omega) (V' := Old w) (fun g _ hg => X0.lt hg)
         have RT9 := ((((RTy.out.agree (agree_put (V := Old W) (B := (w.heap.size + 1 + 1)) (show (w.heap.size + 1 + 1) < W.heap.size from l8W) [.int .i64 q1, .int .i64 q2, .int .i64 q3, .int .i64 q4, .bool q5, .int .i64 q6, .int .i64 q7, .int .i64 q8, .int .i64 q9, .int .i64 q10, .int .i64 q11, .int .i64 q12, .slice a5 nq c5] 0 wy)).agree (agree_put (V := Old W) (B := (w.heap.size + 1 + 1 + 1)) (show (w.heap.size + 1 + 1 + 1) < W.heap.size from l9W) [.int .i64 t1, .int .i64 t2, .bool t3, .int .i64 t4, .int .i64 t5, .int .i64 t6, .int .i64 t7, .bool t8, .slice a1 nt c1] 0 _))).ext (Ext.refl _).drew).weak (by omega) (V' := Old w) (fun g _ hg => X0.lt hg)
         rw [hW9] at C1 C2 X9 RQ9 RT9
         clear hW9
         have ck1 := C1.cell
         have ck2 := C2.cell
         have HC1 := Lib.hid C1
         have HC2 := Lib.hid C2
         clear C1 C2 qt qs
         go_wp2_with fail
         exact bodyPost_ret (v := .tuple #[.agg #[.int .i64 q1, .int .i64 q2, .int .i64 q3, .int .i64 q4, .bool q5, .int .i64 q6, .int .i64 q7, .int .i64 q8, .int .i64 q9, .int .i64 q10, .int .i64 q11, .int .i64 q12, .slice a5 nq c5], .agg #[.int .i64 t1, .int .i64 t2, .bool t3, .int .i64 t4, .int .i64 t5, .int .i64 t6, .int .i64 t7, .bool t8, .slice a1 nt c1]]) (by simp [results, Try.results41, go_sem, ck1, ck2]) rfl (HF.out _ _ _ _ _ X9 RQ9 RT9))
      | (obtain ⟨w9, hW9⟩ : ∃ w9, (put (put wy (w.heap.size + 1 + 1 + 1) 0 [.int .i64 t1, .int .i64 t2, .bool t3, .int .i64 t4, .int .i64 t5, .int .i64 t6, .int .i64 t7, .bool t8, .slice a1 nt c1]) (w.heap.size + 1 + 1) 0 [.int .i64 q1, .int .i64 q2, .int .i64 q3, .int .i64 q4, .bool q5, .int .i64 q6, .int .i64 q7, .int .i64 q8, .int .i64 q9, .int .i64 q10, .int .i64 q11, .int .i64 q12, .slice a5 nq c5]).drew = w9 := ⟨_, rfl⟩
         have hW8 := hW9
         simp only [put, Nat.reduceAdd] at hW8
         rw [hW8]
         clear hW8
         have C1 := (put_other (B := (w.heap.size + 1 + 1 + 1)) (B' := (w.heap.size + 1 + 1)) (by omega) [.int .i64 q1, .int .i64 q2, .int .i64 q3, .int .i64 q4, .bool q5, .int .i64 q6, .int .i64 q7, .int .i64 q8, .int .i64 q9, .int .i64 q10, .int .i64 q11, .int .i64 q12, .slice a5 nq c5] 0 _ (put_all (vs := [.int .i64 t1, .int .i64 t2, .bool t3, .int .i64 t4, .int .i64 t5, .int .i64 t6, .int .i64 t7, .bool t8, .slice a1 nt c1]) B9y.out rfl)).drew
         have C2 := (put_all (vs := [.int .i64 q1, .int .i64 q2, .int .i64 q3, .int .i64 q4, .bool q5, .int .i64 q6, .int .i64 q7, .int .i64 q8, .int .i64 q9, .int .i64 q10, .int .i64 q11, .int .i64 q12, .slice a5 nq c5]) (put_other (B := (w.heap.size + 1 + 1)) (B' := (w.heap.size + 1 + 1 + 1)) (by omega) [.int .i64 t1, .int .i64 t2, .bool t3, .int .i64 t4, .int .i64 t5, .int .i64 t6, .int .i64 t7, .bool t8, .slice a1 nt c1] 0 _ B8y.out) rfl).drew
         have X9 := put_ext (a := w) (B := (w.heap.size + 1 + 1)) (by omega) [.int .i64 q1, .int .i64 q2, .int .i64 q3, .int .i64 q4, .bool q5, .int .i64 q6, .int .i64 q7, .int .i64 q8, .int .i64 q9, .int .i64 q10, .int .i64 q11, .int .i64 q12, .slice a5 nq c5] 0 _ (put_ext (a := w) (B := (w.heap.size + 1 + 1 + 1)) (by omega) [.int .i64 t1, .int .i64 t2, .bool t3, .int .i64 t4, .int .i64 t5, .int .i64 t6, .int .i64 t7, .bool t8, .slice a1 nt c1] 0 _ Xy.out)
         replace X9 := X9.drew
         have RQ9 := ((((RQy.out.agree (agree_put (V := Old W) (B := (w.heap.size + 1 + 1 + 1)) (show (w.heap.size + 1 + 1 + 1) < W.heap.size from l9W) [.int .i64 t1, .int .i64 t2, .bool t3, .int .i64 t4, .int .i64 t5, .int .i64 t6, .int .i64 t7, .bool t8, .slice a1 nt c1] 0 wy)).agree (agree_put (V := Old W) (B := (w.heap.size + 1 + 1)) (show (w.heap.size + 1 + 1) < W.heap.size from l8W) [.int .i64 q1, .int .i64 q2, .int .i64 q3, .int .i64 q4, .bool q5, .int .i64 q6, .int .i64 q7, .int .i64 q8, .int .i64 q9, .int .i64 q10, .int .i64 q11, .int .i64 q12, .slice a5 nq c5] 0 _))).ext (Ext.refl _).drew).weak (by omega) (V' := Old w) (fun g _ hg => X0.lt hg)
         have RT9 := ((((RTy.out.agree (agree_put (V := Old W) (B := (w.heap.size + 1 + 1 + 1)) (show (w.heap.size + 1 + 1 + 1) < W.heap.size from l9W) [.int .i64 t1, .int .i64 t2, .bool t3, .int .i64 t4, .int .i64 t5, .int .i64 t6, .int .i64 t7, .bool t8, .slice a1 nt c1] 0 wy)).agree (agree_put (V := Old W) (B := (w.heap.size + 1 + 1)) (show (w.heap.size + 1 + 1) < W.heap.size from l8W) [.int .i64 q1, .int .i64 q2, .int .i64 q3, .int .i64 q4, .bool q5, .int .i64 q6, .int .i64 q7, .int .i64 q8, .int .i64 q9, .int .i64 q10, .int .i64 q11, .int .i64 q12, .slice a5 nq c5] 0 _))).ext (Ext.refl _).drew).weak (by omega) (V' := Old w) (fun g _ hg => X0.lt hg)
         rw [hW9] at C1 C2 X9 RQ9 RT9
         clear hW9
         have ck1 := C1.cell
         have ck2 := C2.cell
         have HC1 := Lib.hid C1
         have HC2 := Lib.hid C2
         clear C1 C2 qt qs
         go_wp2_with fail
         exact bodyPost_ret (v := .tuple #[.agg #[.int .i64 q1, .int .i64 q2, .int .i64 q3, .int .i64 q4, .bool q5, .int .i64 q6, .int .i64 q7, .int .i64 q8, .int .i64 q9, .int .i64 q10, .int .i64 q11, .int .i64 q12, .slice a5 nq c5], .agg #[.int .i64 t1, .int .i64 t2, .bool t3, .int .i64 t4, .int .i64 t5, .int .i64 t6, .int .i64 t7, .bool t8, .slice a1 nt c1]]) (by simp [results, Try.results41, go_sem, ck1, ck2]) rfl (HF.out _ _ _ _ _ X9 RQ9 RT9))
set_option maxRecDepth 100000 in
set_option maxHeartbeats 16000000 in
theorem send_got (p : PSt) (s : SSt) (k : Int) (vp vs : Value) (w : World) (hp : RF Any 6 valE w vp p.vals) (hs : RF Any 6 valE w vs s.vals) (hpl : p.vals.length ≤ 1000000000) (hsl : s.vals.length ≤ 1000000000) (hm : Mod p) (hlf : s.left ≤ 1000000) (hlo : -9223372036854775808 ≤ s.lost ∧ s.lost ≤ 9223372036854775807 - 100000000000)
    (x : Msg) (hms : (stepS p (valsOf k) 0 0 0).2 = [x]) : Calls Try.prog 41 #[pubA p vp, subA s vs, .int .i64 k, .bool false] w (RetPS w ((stepS p (valsOf k) 0 0 0).1, (takeS (tickS s) x).1)) := by
  have HV := Lib.hid (fun w1 => values_any k w1)
  have HT := Lib.hid (fun w1 (he : Ext w w1) => tick_any s vs w1 (hs.ext he) hsl hlf)
  have hvk : (valsOf k).length ≤ 1000000000 := by have := (vals_ok k).2; omega
  have HS := Lib.hid (fun w1 v u (h : RF Any 6 valE w1 v p.vals) (h2 : RF Any 6 valE w1 u (valsOf k)) => step_any p (valsOf k) 0 0 0 v u w1 h h2 hpl hvk hm)
  have HRP := Lib.hid (fun w1 (he : Ext w w1) => hp.ext he)
  have htl : (tickS s).vals = s.vals ∧ (tickS s).lost = s.lost := by unfold tickS; split <;> exact ⟨rfl, rfl⟩
  have HTk := Lib.hid (fun w1 v u h1 h2 => take_any (tickS s) x v u w1 h1 h2 (by rw [htl.1]; exact hsl) (by rw [htl.2]; exact hlo))
  clear htl
  obtain ⟨a, c, rfl, _, _⟩ := hp.form
  obtain ⟨a0, c0, rfl, _, _⟩ := hs.form
  have HF : Hid (∀ w' a c a' c', Ext w w' → RF (Old w) 6 valE w' (.slice a (stepS p (valsOf k) 0 0 0).1.vals.length c) (stepS p (valsOf k) 0 0 0).1.vals → RF (Old w) 6 valE w' (.slice a' ((takeS (tickS s) x).1).vals.length c') ((takeS (tickS s) x).1).vals → RetPS w ((stepS p (valsOf k) 0 0 0).1, (takeS (tickS s) x).1) (.returned (.tuple #[pubA (stepS p (valsOf k) 0 0 0).1 (.slice a (stepS p (valsOf k) 0 0 0).1.vals.length c), subA ((takeS (tickS s) x).1) (.slice a' ((takeS (tickS s) x).1).vals.length c')])) w') := fun w' a c a' c' h1 h2 h3 => ⟨a, c, a', c', rfl, h1, h2, h3⟩
  generalize RetPS w ((stepS p (valsOf k) 0 0 0).1, (takeS (tickS s) x).1) = R at *
  clear hp hs hpl hsl hm hlf hlo hvk
  obtain ⟨z, hz⟩ : ∃ z, stepS p (valsOf k) 0 0 0 = z := ⟨_, rfl⟩
  rw [hz] at HS HF hms
  clear hz
  obtain ⟨q, ms⟩ := z
  simp only at HF hms
  subst hms
  generalize hzt : takeS (tickS s) x = zt at *
  clear hzt
  obtain ⟨u, ku⟩ := zt
  simp only at HF
  generalize tickS s = t at *
  generalize valsOf k = L at *
  obtain ⟨p1, p2, p3, p4, p5, p6, p7, p8, p9, p10, p11, p12, vp⟩ := p
  obtain ⟨q1, q2, q3, q4, q5, q6, q7, q8, q9, q10, q11, q12, vq⟩ := q
  obtain ⟨s1, s2, s3, s4, s5, s6, s7, s8, vs⟩ := s
  obtain ⟨t1, t2, t3, t4, t5, t6, t7, t8, vt⟩ := t
  obtain ⟨y1, y2, y3, y4, y5, y6, y7, y8, y9, vx⟩ := x
  obtain ⟨u1, u2, u3, u4, u5, u6, u7, u8, vu⟩ := u
  simp only at *
  generalize hn : vp.length = n at *
  have HNP := Lib.hid hn
  clear hn
  generalize hnq : vq.length = nq at *
  have HNQ := Lib.hid hnq
  clear hnq
  generalize hn0 : vs.length = n0 at *
  have HNS := Lib.hid hn0
  clear hn0
  generalize hnt : vt.length = nt at *
  have HNT := Lib.hid hnt
  clear hnt
  generalize hnl : L.length = nl at *
  have HNL := Lib.hid hnl
  clear hnl
  generalize hnx : vx.length = nx at *
  have HNX := Lib.hid hnx
  clear hnx
  generalize hnu : vu.length = nu at *
  have HNU := Lib.hid hnu
  clear hnu
  go_enter Try.func41, Try.ntmps41
  go_wp2_with fail
  have X0 : Ext w ((((w.alloc (.cells #[.int .i64 p1, .int .i64 p2, .int .i64 p3, .int .i64 p4, .bool p5, .int .i64 p6, .int .i64 p7, .int .i64 p8, .int .i64 p9, .int .i64 p10, .int .i64 p11, .int .i64 p12, .slice a n c] 28)).alloc (.cells #[.int .i64 s1, .int .i64 s2, .bool s3, .int .i64 s4, .int .i64 s5, .int .i64 s6, .int .i64 s7, .bool s8, .slice a0 n0 c0] 50)).alloc (.cells #[.int .i64 0, .int .i64 0, .int .i64 0, .int .i64 0, .bool false, .int .i64 0, .int .i64 0, .int .i64 0, .int .i64 0, .int .i64 0, .int .i64 0, .int .i64 0, .slice none 0 0] 28)).alloc (.cells #[.int .i64 0, .int .i64 0, .bool false, .int .i64 0, .int .i64 0, .int .i64 0, .int .i64 0, .bool false, .slice none 0 0] 50)) := ((((Ext.refl w).alloc _).alloc _).alloc _).alloc _
  have BP := Lib.hid ((((Bk.new w #[.int .i64 p1, .int .i64 p2, .int .i64 p3, .int .i64 p4, .bool p5, .int .i64 p6, .int .i64 p7, .int .i64 p8, .int .i64 p9, .int .i64 p10, .int .i64 p11, .int .i64 p12, .slice a n c] 28 w.heap.size rfl).alloc (.cells #[.int .i64 s1, .int .i64 s2, .bool s3, .int .i64 s4, .int .i64 s5, .int .i64 s6, .int .i64 s7, .bool s8, .slice a0 n0 c0] 50)).alloc (.cells #[.int .i64 0, .int .i64 0, .int .i64 0, .int .i64 0, .bool false, .int .i64 0, .int .i64 0, .int .i64 0, .int .i64 0, .int .i64 0, .int .i64 0, .int .i64 0, .slice none 0 0] 28)).alloc (.cells #[.int .i64 0, .int .i64 0, .bool false, .int .i64 0, .int .i64 0, .int .i64 0, .int .i64 0, .bool false, .slice none 0 0] 50))
  have BS := Lib.hid (((Bk.new (w.alloc (.cells #[.int .i64 p1, .int .i64 p2, .int .i64 p3, .int .i64 p4, .bool p5, .int .i64 p6, .int .i64 p7, .int .i64 p8, .int .i64 p9, .int .i64 p10, .int .i64 p11, .int .i64 p12, .slice a n c] 28)) #[.int .i64 s1, .int .i64 s2, .bool s3, .int .i64 s4, .int .i64 s5, .int .i64 s6, .int .i64 s7, .bool s8, .slice a0 n0 c0] 50 (w.heap.size + 1) (by simp)).alloc (.cells #[.int .i64 0, .int .i64 0, .int .i64 0, .int .i64 0, .bool false, .int .i64 0, .int .i64 0, .int .i64 0, .int .i64 0, .int .i64 0, .int .i64 0, .int .i64 0, .slice none 0 0] 28)).alloc (.cells #[.int .i64 0, .int .i64 0, .bool false, .int .i64 0, .int .i64 0, .int .i64 0, .int .i64 0, .bool false, .slice none 0 0] 50))
  have B8 := Lib.hid ((Bk.new ((w.alloc (.cells #[.int .i64 p1, .int .i64 p2, .int .i64 p3, .int .i64 p4, .bool p5, .int .i64 p6, .int .i64 p7, .int .i64 p8, .int .i64 p9, .int .i64 p10, .int .i64 p11, .int .i64 p12, .slice a n c] 28)).alloc (.cells #[.int .i64 s1, .int .i64 s2, .bool s3, .int .i64 s4, .int .i64 s5, .int .i64 s6, .int .i64 s7, .bool s8, .slice a0 n0 c0] 50)) #[.int .i64 0, .int .i64 0, .int .i64 0, .int .i64 0, .bool false, .int .i64 0, .int .i64 0, .int .i64 0, .int .i64 0, .int .i64 0, .int .i64 0, .int .i64 0, .slice none 0 0] 28 (w.heap.size + 1 + 1) (by simp)).alloc (.cells #[.int .i64 0, .int .i64 0, .bool false, .int .i64 0, .int .i64 0, .int .i64 0, .int .i64 0, .bool false, .slice none 0 0] 50))
  have B9 := Lib.hid (Bk.new (((w.alloc (.cells #[.int .i64 p1, .int .i64 p2, .int .i64 p3, .int .i64 p4, .bool p5, .int .i64 p6, .int .i64 p7, .int .i64 p8, .int .i64 p9, .int .i64 p10, .int .i64 p11, .int .i64 p12, .slice a n c] 28)).alloc (.cells #[.int .i64 s1, .int .i64 s2, .bool s3, .int .i64 s4, .int .i64 s5, .int .i64 s6, .int .i64 s7, .bool s8, .slice a0 n0 c0] 50)).alloc (.cells #[.int .i64 0, .int .i64 0, .int .i64 0, .int .i64 0, .bool false, .int .i64 0, .int .i64 0, .int .i64 0, .int .i64 0, .int .i64 0, .int .i64 0, .int .i64 0, .slice none 0 0] 28)) #[.int .i64 0, .int .i64 0, .bool false, .int .i64 0, .int .i64 0, .int .i64 0, .int .i64 0, .bool false, .slice none 0 0] 50 (w.heap.size + 1 + 1 + 1) (by simp))
  refine (HT.out _ X0).mono ?_
  generalize (((w.alloc (.cells #[.int .i64 p1, .int .i64 p2, .int .i64 p3, .int .i64 p4, .bool p5, .int .i64 p6, .int .i64 p7, .int .i64 p8, .int .i64 p9, .int .i64 p10, .int .i64 p11, .int .i64 p12, .slice a n c] 28)).alloc (.cells #[.int .i64 s1, .int .i64 s2, .bool s3, .int .i64 s4, .int .i64 s5, .int .i64 s6, .int .i64 s7, .bool s8, .slice a0 n0 c0] 50)).alloc (.cells #[.int .i64 0, .int .i64 0, .int .i64 0, .int .i64 0, .bool false, .int .i64 0, .int .i64 0, .int .i64 0, .int .i64 0, .int .i64 0, .int .i64 0, .int .i64 0, .slice none 0 0] 28)).alloc (.cells #[.int .i64 0, .int .i64 0, .bool false, .int .i64 0, .int .i64 0, .int .i64 0, .int .i64 0, .bool false, .slice none 0 0] 50) = W at *
  have lSW := BS.out.lt
  have l8W := B8.out.lt
  have l9W := B9.out.lt
  rintro e w1 ⟨a1, c1, he, x1, r1⟩
  simp only [HNT.out] at he r1
  subst he
  have BS1 := Lib.hid (BS.out.ext x1)
  have q1s := BS1.out.cell
  have f1s := BS1.out.frozen
  go_upto_region 2 with fail
  change Code.wp _ _ _ _ (put w1 (w.heap.size + 1) 0 [.int .i64 t1, .int .i64 t2, .bool t3, .int .i64 t4, .int .i64 t5, .int .i64 t6, .int .i64 t7, .bool t8, .slice a1 nt c1])
  have BS2 := Lib.hid (put_all (vs := [.int .i64 t1, .int .i64 t2, .bool t3, .int .i64 t4, .int .i64 t5, .int .i64 t6, .int .i64 t7, .bool t8, .slice a1 nt c1]) BS1.out rfl)
  have BP2 := Lib.hid (put_other (B' := (w.heap.size + 1)) (by omega) [.int .i64 t1, .int .i64 t2, .bool t3, .int .i64 t4, .int .i64 t5, .int .i64 t6, .int .i64 t7, .bool t8, .slice a1 nt c1] 0 _ (BP.out.ext x1))
  have B82 := Lib.hid (put_other (B' := (w.heap.size + 1)) (by omega) [.int .i64 t1, .int .i64 t2, .bool t3, .int .i64 t4, .int .i64 t5, .int .i64 t6, .int .i64 t7, .bool t8, .slice a1 nt c1] 0 _ (B8.out.ext x1))
  have B92 := Lib.hid (put_other (B' := (w.heap.size + 1)) (by omega) [.int .i64 t1, .int .i64 t2, .bool t3, .int .i64 t4, .int .i64 t5, .int .i64 t6, .int .i64 t7, .bool t8, .slice a1 nt c1] 0 _ (B9.out.ext x1))
  have RT2 := Lib.hid (r1.agree (agree_put (V := Old W) (B := (w.heap.size + 1)) lSW [.int .i64 t1, .int .i64 t2, .bool t3, .int .i64 t4, .int .i64 t5, .int .i64 t6, .int .i64 t7, .bool t8, .slice a1 nt c1] 0 w1))
  have X2 := Lib.hid (put_ext (a := w) (B := (w.heap.size + 1)) (by omega) [.int .i64 t1, .int .i64 t2, .bool t3, .int .i64 t4, .int .i64 t5, .int .i64 t6, .int .i64 t7, .bool t8, .slice a1 nt c1] 0 _ (X0.trans x1))
  have hAW : W.heap.size ≤ (put w1 (w.heap.size + 1) 0 [.int .i64 t1, .int .i64 t2, .bool t3, .int .i64 t4, .int .i64 t5, .int .i64 t6, .int .i64 t7, .bool t8, .slice a1 nt c1]).heap.size := by rw [put_size]; exact x1.size
  clear q1s f1s HT
  generalize put w1 (w.heap.size + 1) 0 [.int .i64 t1, .int .i64 t2, .bool t3, .int .i64 t4, .int .i64 t5, .int .i64 t6, .int .i64 t7, .bool t8, .slice a1 nt c1] = w2 at *
  have lB0 := BP2.out.lt
  have q0 := BP2.out.cell
  have HBA : Hid (∀ w', Ext w2 w' → Bk w' w.heap.size 28 #[.int .i64 p1, .int .i64 p2, .int .i64 p3, .int .i64 p4, .bool p5, .int .i64 p6, .int .i64 p7, .int .i64 p8, .int .i64 p9, .int .i64 p10, .int .i64 p11, .int .i64 p12, .slice a n c]) := fun w' he => BP2.out.ext he
  have HBC := Lib.hid (fun w' (he : Ext w2 w') => (HBA.out w' he).cell)
  have HRA := Lib.hid (fun w' (he : Ext w2 w') => HRP.out _ (X2.out.trans he))
  clear HRP BS BP B8 B9 BS1 r1
  go_upto_region 2 with fail
  go_cut [10, 11] (fun t m wx => ∃ (nb : Nat) (a5 : Option Addr) (c5 : Nat) (a6 : Option Addr) (c6 : Nat), t = .pointer (some ⟨nb, 0, none⟩) ∧ m = .slice a6 1 c6 ∧ AftP W w2 wx w.heap.size nb #[.int .i64 p1, .int .i64 p2, .int .i64 p3, .int .i64 p4, .bool p5, .int .i64 p6, .int .i64 p7, .int .i64 p8, .int .i64 p9, .int .i64 p10, .int .i64 p11, .int .i64 p12, .slice a n c] ⟨q1, q2, q3, q4, q5, q6, q7, q8, q9, q10, q11, q12, vq⟩ [⟨y1, y2, y3, y4, y5, y6, y7, y8, y9, vx⟩] a5 c5 a6 c6)
  case first =>
    go_region_held3 (fun w' => ∀ j, w'.cell? ⟨w.heap.size, j, none⟩ = (#[.int .i64 p1, .int .i64 p2, .int .i64 p3, .int .i64 p4, .bool p5, .int .i64 p6, .int .i64 p7, .int .i64 p8, .int .i64 p9, .int .i64 p10, .int .i64 p11, .int .i64 p12, .slice a n c] : Array Value)[j]?)
      (first | (with_reducible exact q0) | (exact HBC.out _ (by first | (with_reducible exact (Ext.refl w2).drew) | (with_reducible exact ((Ext.refl w2).alloc _).drew) | (with_reducible exact (Ext.refl w2).drew.alloc _) | (with_reducible exact E4) | (with_reducible exact E4.alloc _) | (with_reducible exact E5) | (with_reducible exact E5.alloc _) | (with_reducible exact (Ext.refl w2)))) | (intro j; (repeat rw [World.cell?_setCell_other _ _ _ _ (by first | (simp; done) | (simp; omega))]); with_reducible exact HBC.out _ E5 j) | fail)
      (first
        | (go_at_call 18; (with_reducible refine (HV.out _).mono ?_); rintro e w4 ⟨a4, c4, he, x4, r4⟩; rw [HNL.out] at he r4; subst he; have E4 : Ext w2 w4 := Ext.trans (by first | (with_reducible exact (Ext.refl w2).drew) | (with_reducible exact ((Ext.refl w2).alloc _).drew) | (with_reducible exact (Ext.refl w2).drew.alloc _)) x4; have lB4 : w.heap.size < w4.heap.size := E4.lt lB0; (first | (with_reducible have T4 := Lib.hid ((Bk.new w2 #[.int .i64 0, .int .i64 0, .int .i64 0, .int .i64 0, .bool false, .int .i64 0, .int .i64 0, .int .i64 0, .int .i64 0, .int .i64 0, .int .i64 0, .int .i64 0, .slice none 0 0] 28 w2.heap.size rfl).drew.ext x4)) | (with_reducible have T4 := Lib.hid ((Bk.new w2.drew #[.int .i64 0, .int .i64 0, .int .i64 0, .int .i64 0, .bool false, .int .i64 0, .int .i64 0, .int .i64 0, .int .i64 0, .int .i64 0, .int .i64 0, .int .i64 0, .slice none 0 0] 28 w2.heap.size rfl).ext x4)) | (have T4 := Lib.hid True.intro)); have Ha4 := Lib.hid (fun w' (he : Ext w4 w') => (r4.ext he).weak (by omega) (V' := Any) (fun _ _ h => h.elim)); clear r4)
        | (go_at_call 17; (with_reducible refine (HS.out _ _ _ (HRA.out _ (by first | (with_reducible exact E4) | (with_reducible exact E4.alloc _))) (Ha4.out _ (by first | (with_reducible exact Ext.refl w4) | (with_reducible exact (Ext.refl w4).alloc _)))).mono ?_); rintro e w5 ⟨a5, c5, a6, c6, he, x5, r5, m5⟩; simp only [HNQ.out, List.length_cons, List.length_nil, Nat.zero_add] at he; subst he; have E5 : Ext w2 w5 := Ext.trans (by first | (with_reducible exact E4) | (with_reducible exact E4.alloc _)) x5; (first | (with_reducible have T5 := Lib.hid ((Bk.new w4 #[.int .i64 0, .int .i64 0, .int .i64 0, .int .i64 0, .bool false, .int .i64 0, .int .i64 0, .int .i64 0, .int .i64 0, .int .i64 0, .int .i64 0, .int .i64 0, .slice none 0 0] 28 w4.heap.size rfl).ext x5)) | (with_reducible have T5 := Lib.hid (T4.out.ext x5)) | (have T5 := Lib.hid True.intro)); (try have tc5 := T5.out.cell); (try have tf5 := T5.out.frozen))
        | fail)
    all_goals
      first
        | (with_reducible have hA0 := aftP_put (A := W) (n := ⟨q1, q2, q3, q4, q5, q6, q7, q8, q9, q10, q11, q12, vq⟩) hAW (E4.alloc (.cells #[.int .i64 0, .int .i64 0, .int .i64 0, .int .i64 0, .bool false, .int .i64 0, .int .i64 0, .int .i64 0, .int .i64 0, .int .i64 0, .int .i64 0, .int .i64 0, .slice none 0 0] 28)) x5 (HBA.out _ (E4.alloc _)) (Bk.new w4 #[.int .i64 0, .int .i64 0, .int .i64 0, .int .i64 0, .bool false, .int .i64 0, .int .i64 0, .int .i64 0, .int .i64 0, .int .i64 0, .int .i64 0, .int .i64 0, .slice none 0 0] 28 w4.heap.size rfl) rfl (by omega) (E4.size) r5 m5
           have hA : AftP W w2 (put w5 w4.heap.size 0 [.int .i64 q1, .int .i64 q2, .int .i64 q3, .int .i64 q4, .bool q5, .int .i64 q6, .int .i64 q7, .int .i64 q8, .int .i64 q9, .int .i64 q10, .int .i64 q11, .int .i64 q12, .slice a5 nq c5]) w.heap.size w4.heap.size #[.int .i64 p1, .int .i64 p2, .int .i64 p3, .int .i64 p4, .bool p5, .int .i64 p6, .int .i64 p7, .int .i64 p8, .int .i64 p9, .int .i64 p10, .int .i64 p11, .int .i64 p12, .slice a n c] ⟨q1, q2, q3, q4, q5, q6, q7, q8, q9, q10, q11, q12, vq⟩ [⟨y1, y2, y3, y4, y5, y6, y7, y8, y9, vx⟩] a5 c5 a6 c6 := by simpa only [HNQ.out] using hA0
           clear hA0
           change Exit.then _ _ _ _ (put w5 w4.heap.size 0 [.int .i64 q1, .int .i64 q2, .int .i64 q3, .int .i64 q4, .bool q5, .int .i64 q6, .int .i64 q7, .int .i64 q8, .int .i64 q9, .int .i64 q10, .int .i64 q11, .int .i64 q12, .slice a5 nq c5])
           generalize put w5 w4.heap.size 0 [.int .i64 q1, .int .i64 q2, .int .i64 q3, .int .i64 q4, .bool q5, .int .i64 q6, .int .i64 q7, .int .i64 q8, .int .i64 q9, .int .i64 q10, .int .i64 q11, .int .i64 q12, .slice a5 nq c5] = w6 at *
           have HA := Lib.hid hA
           clear hA
           go_wp2_with fail
           go_meet
           exact ⟨w4.heap.size, a5, c5, a6, c6, rfl, rfl, HA.out⟩)
        | (with_reducible have hA0 := aftP_put (A := W) (n := ⟨q1, q2, q3, q4, q5, q6, q7, q8, q9, q10, q11, q12, vq⟩) hAW (E4) x5 (HBA.out _ E4) ((show Bk w4 w2.heap.size 28 #[.int .i64 0, .int .i64 0, .int .i64 0, .int .i64 0, .bool false, .int .i64 0, .int .i64 0, .int .i64 0, .int .i64 0, .int .i64 0, .int .i64 0, .int .i64 0, .slice none 0 0] from T4.out)) rfl (by omega) (Nat.le_refl _) r5 m5
           have hA : AftP W w2 (put w5 w2.heap.size 0 [.int .i64 q1, .int .i64 q2, .int .i64 q3, .int .i64 q4, .bool q5, .int .i64 q6, .int .i64 q7, .int .i64 q8, .int .i64 q9, .int .i64 q10, .int .i64 q11, .int .i64 q12, .slice a5 nq c5]) w.heap.size w2.heap.size #[.int .i64 p1, .int .i64 p2, .int .i64 p3, .int .i64 p4, .bool p5, .int .i64 p6, .int .i64 p7, .int .i64 p8, .int .i64 p9, .int .i64 p10, .int .i64 p11, .int .i64 p12, .slice a n c] ⟨q1, q2, q3, q4, q5, q6, q7, q8, q9, q10, q11, q12, vq⟩ [⟨y1, y2, y3, y4, y5, y6, y7, y8, y9, vx⟩] a5 c5 a6 c6 := by simpa only [HNQ.out] using hA0
           clear hA0
           change Exit.then _ _ _ _ (put w5 w2.heap.size 0 [.int .i64 q1, .int .i64 q2, .int .i64 q3, .int .i64 q4, .bool q5, .int .i64 q6, .int .i64 q7, .int .i64 q8, .int .i64 q9, .int .i64 q10, .int .i64 q11, .int .i64 q12, .slice a5 nq c5])
           generalize put w5 w2.heap.size 0 [.int .i64 q1, .int .i64 q2, .int .i64 q3, .int .i64 q4, .bool q5, .int .i64 q6, .int .i64 q7, .int .i64 q8, .int .i64 q9, .int .i64 q10, .int .i64 q11, .int .i64 q12, .slice a5 nq c5] = w6 at *
           have HA := Lib.hid hA
           clear hA
           go_wp2_with fail
           go_meet
           exact ⟨w2.heap.size, a5, c5, a6, c6, rfl, rfl, HA.out⟩)
        | (have hA0 := aftP_new (A := W) (n := ⟨q1, q2, q3, q4, q5, q6, q7, q8, q9, q10, q11, q12, vq⟩) hAW E4 x5 (HBA.out _ E4) r5 m5
           have hA : AftP W w2 (w5.alloc (.cells #[.int .i64 q1, .int .i64 q2, .int .i64 q3, .int .i64 q4, .bool q5, .int .i64 q6, .int .i64 q7, .int .i64 q8, .int .i64 q9, .int .i64 q10, .int .i64 q11, .int .i64 q12, .slice a5 nq c5] 28)) w.heap.size w5.heap.size #[.int .i64 p1, .int .i64 p2, .int .i64 p3, .int .i64 p4, .bool p5, .int .i64 p6, .int .i64 p7, .int .i64 p8, .int .i64 p9, .int .i64 p10, .int .i64 p11, .int .i64 p12, .slice a n c] ⟨q1, q2, q3, q4, q5, q6, q7, q8, q9, q10, q11, q12, vq⟩ [⟨y1, y2, y3, y4, y5, y6, y7, y8, y9, vx⟩] a5 c5 a6 c6 := by simpa only [HNQ.out] using hA0
           clear hA0
           generalize w5.alloc (.cells #[.int .i64 q1, .int .i64 q2, .int .i64 q3, .int .i64 q4, .bool q5, .int .i64 q6, .int .i64 q7, .int .i64 q8, .int .i64 q9, .int .i64 q10, .int .i64 q11, .int .i64 q12, .slice a5 nq c5] 28) = w6 at *
           have HA := Lib.hid hA
           clear hA
           go_wp2_with fail
           go_meet
           exact ⟨w5.heap.size, a5, c5, a6, c6, rfl, rfl, HA.out⟩)
  case rest =>
    obtain ⟨tb, a5, c5, a6, c6, rfl, rfl, hT, hP, hle, hR5, hM5, hx5⟩ := hcut
    simp only [HNQ.out] at hT hR5
    have BT := Lib.hid (show Bk wc tb 28 #[.int .i64 q1, .int .i64 q2, .int .i64 q3, .int .i64 q4, .bool q5, .int .i64 q6, .int .i64 q7, .int .i64 q8, .int .i64 q9, .int .i64 q10, .int .i64 q11, .int .i64 q12, .slice a5 nq c5] from hT)
    have BS3 := Lib.hid (BS2.out.ext hx5)
    have B83 := Lib.hid (B82.out.ext hx5)
    have B93 := Lib.hid (B92.out.ext hx5)
    have RQ := Lib.hid hR5
    have RT3 := Lib.hid (RT2.out.ext hx5)
    have X3 := Lib.hid (X2.out.trans hx5)
    have hx3 := hx5
    have XW3 := Lib.hid (Nat.le_trans hAW hx5.size)
    have RTA := Lib.hid (RT2.out.weak (by omega) (V' := Any) (fun _ _ h => h.elim))
    clear hT hP hR5 hx5 q0 HBC HBA HRA HS HV
    obtain ⟨mb, mo, mc, ma, mc', hvm, _, g0, g1, g2, g3, g4, g5, g6, g7, g8, g9, hrm⟩ := msg_get hM5
    simp only [Value.slice.injEq, List.length_cons, List.length_nil, Nat.zero_add] at hvm
    obtain ⟨rfl, -, rfl⟩ := hvm
    simp only [HNX.out] at g0 g1 g2 g3 g4 g5 g6 g7 g8 g9 hrm
    clear hM5
    have qs := BS3.out.cell
    have fs := BS3.out.frozen
    go_upto_region 4 with fail
    go_region_with (go_at_call 25; (with_reducible refine (HTk.out _ _ _ (RTA.out.ext (hx3.trans (Ext.refl wc).drew)) (hrm.ext (Ext.refl wc).drew)).mono ?_); rintro e w7 ⟨a7, c7, he, x7, r7⟩; simp only [HNU.out] at he r7; subst he; have E7 : Ext wc w7 := (Ext.refl wc).drew.trans x7; have BS7 := Lib.hid (BS3.out.ext E7); have q7 := BS7.out.cell; have f7 := BS7.out.frozen)
    all_goals
      change Exit.then _ _ _ _ (put w7 (w.heap.size + 1) 0 [.int .i64 u1, .int .i64 u2, .bool u3, .int .i64 u4, .int .i64 u5, .int .i64 u6, .int .i64 u7, .bool u8, .slice a7 nu c7])
      have BSy := Lib.hid (put_all (vs := [.int .i64 u1, .int .i64 u2, .bool u3, .int .i64 u4, .int .i64 u5, .int .i64 u6, .int .i64 u7, .bool u8, .slice a7 nu c7]) BS7.out rfl)
      have BTy := Lib.hid (put_other (B' := (w.heap.size + 1)) (by have := hle; omega) [.int .i64 u1, .int .i64 u2, .bool u3, .int .i64 u4, .int .i64 u5, .int .i64 u6, .int .i64 u7, .bool u8, .slice a7 nu c7] 0 _ (BT.out.ext E7))
      have B8y := Lib.hid (put_other (B' := (w.heap.size + 1)) (by omega) [.int .i64 u1, .int .i64 u2, .bool u3, .int .i64 u4, .int .i64 u5, .int .i64 u6, .int .i64 u7, .bool u8, .slice a7 nu c7] 0 _ (B83.out.ext E7))
      have B9y := Lib.hid (put_other (B' := (w.heap.size + 1)) (by omega) [.int .i64 u1, .int .i64 u2, .bool u3, .int .i64 u4, .int .i64 u5, .int .i64 u6, .int .i64 u7, .bool u8, .slice a7 nu c7] 0 _ (B93.out.ext E7))
      have RQy := Lib.hid ((RQ.out.ext E7).agree (agree_put (V := Old W) (B := (w.heap.size + 1)) lSW [.int .i64 u1, .int .i64 u2, .bool u3, .int .i64 u4, .int .i64 u5, .int .i64 u6, .int .i64 u7, .bool u8, .slice a7 nu c7] 0 w7))
      have RTy := Lib.hid ((r7.agree (agree_put (V := Old wc.drew) (B := (w.heap.size + 1)) BS3.out.lt [.int .i64 u1, .int .i64 u2, .bool u3, .int .i64 u4, .int .i64 u5, .int .i64 u6, .int .i64 u7, .bool u8, .slice a7 nu c7] 0 w7)).weak (by omega) (V' := Old W) (fun g _ hg => Nat.lt_of_lt_of_le hg XW3.out))
      have Xy := Lib.hid (put_ext (a := w) (B := (w.heap.size + 1)) (by omega) [.int .i64 u1, .int .i64 u2, .bool u3, .int .i64 u4, .int .i64 u5, .int .i64 u6, .int .i64 u7, .bool u8, .slice a7 nu c7] 0 _ (X3.out.trans E7))
      clear q7 f7 qs fs g0 g1 g2 g3 g4 g5 g6 g7 g8 g9
      generalize put w7 (w.heap.size + 1) 0 [.int .i64 u1, .int .i64 u2, .bool u3, .int .i64 u4, .int .i64 u5, .int .i64 u6, .int .i64 u7, .bool u8, .slice a7 nu c7] = wy at *
      go_wp2_with fail
      have qt := BTy.out.cell
      have qs := BSy.out.cell
      have ht2 : (w.heap.size + 1 + 1 + 1) < tb := by have := hle; omega
      have hq8 := B8y.out.cell
      have hf8 := B8y.out.frozen
      have hq9 := B9y.out.cell
      have hf9 := B9y.out.frozen
      have HKK := Lib.hid (And.intro qt qs)
      have HKD : Hid ((∀ j, wy.drew.cell? ⟨tb, j, none⟩ = (#[.int .i64 q1, .int .i64 q2, .int .i64 q3, .int .i64 q4, .bool q5, .int .i64 q6, .int .i64 q7, .int .i64 q8, .int .i64 q9, .int .i64 q10, .int .i64 q11, .int .i64 q12, .slice a5 nq c5] : Array Value)[j]?) ∧ (∀ j, wy.drew.cell? ⟨(w.heap.size + 1), j, none⟩ = (#[.int .i64 u1, .int .i64 u2, .bool u3, .int .i64 u4, .int .i64 u5, .int .i64 u6, .int .i64 u7, .bool u8, .slice a7 nu c7] : Array Value)[j]?)) := ⟨BTy.out.drew.cell, BSy.out.drew.cell⟩
      go_upto_region 5 with fail
      go_region_held3 (fun w' => (∀ j, w'.cell? ⟨tb, j, none⟩ = (#[.int .i64 q1, .int .i64 q2, .int .i64 q3, .int .i64 q4, .bool q5, .int .i64 q6, .int .i64 q7, .int .i64 q8, .int .i64 q9, .int .i64 q10, .int .i64 q11, .int .i64 q12, .slice a5 nq c5] : Array Value)[j]?) ∧ (∀ j, w'.cell? ⟨(w.heap.size + 1), j, none⟩ = (#[.int .i64 u1, .int .i64 u2, .bool u3, .int .i64 u4, .int .i64 u5, .int .i64 u6, .int .i64 u7, .bool u8, .slice a7 nu c7] : Array Value)[j]?))
        (first | (with_reducible exact HKK.out) | (with_reducible exact HKD.out) | (refine ⟨fun j => ?_, fun j => ?_⟩ <;> (try rw [World.cell?_drew]) <;> (repeat rw [World.cell?_setCell_other _ _ _ _ (by first | (simp; done) | (simp; omega))]) <;> first | (with_reducible exact HKK.out.1 j) | (with_reducible exact HKK.out.2 j) | (with_reducible exact HKD.out.1 j) | (with_reducible exact HKD.out.2 j)) | fail)
        (fail)
      all_goals
        clear hq8 hf8 hq9 hf9
        first
        | (obtain ⟨w9, hW9⟩ : ∃ w9, (put (put wy (w.heap.size + 1 + 1) 0 [.int .i64 q1, .int .i64 q2, .int .i64 q3, .int .i64 q4, .bool q5, .int .i64 q6, .int .i64 q7, .int .i64 q8, .int .i64 q9, .int .i64 q10, .int .i64 q11, .int .i64 q12, .slice a5 nq c5]) (w.heap.size + 1 + 1 + 1) 0 [.int .i64 u1, .int .i64 u2, .bool u3, .int .i64 u4, .int .i64 u5, .int .i64 u6, .int .i64 u7, .bool u8, .slice a7 nu c7]).drew = w9 := ⟨_, rfl⟩
           have hW8 := hW9
           simp only [put, Nat.reduceAdd] at hW8
           rw [hW8]
           clear hW8
           have C1 := (put_other (B := (w.heap.size + 1 + 1)) (B' := (w.heap.size + 1 + 1 + 1)) (by omega) [.int .i64 u1, .int .i64 u2, .bool u3, .int .i64 u4, .int .i64 u5, .int .i64 u6, .int .i64 u7, .bool u8, .slice a7 nu c7] 0 _ (put_all (vs := [.int .i64 q1, .int .i64 q2, .int .i64 q3, .int .i64 q4, .bool q5, .int .i64 q6, .int .i64 q7, .int .i64 q8, .int .i64 q9, .int .i64 q10, .int .i64 q11, .int .i64 q12, .slice a5 nq c5]) B8y.out rfl)).drew
           have C2 := (put_all (vs := [.int .i64 u1, .int .i64 u2, .bool u3, .int .i64 u4, .int .i64 u5, .int .i64 u6, .int .i64 u7, .bool u8, .slice a7 nu c7]) (put_other (B := (w.heap.size + 1 + 1 + 1)) (B' := (w.heap.size + 1 + 1)) (by omega) [.int .i64 q1, .int .i64 q2, .int .i64 q3, .int .i64 q4, .bool q5, .int .i64 q6, .int .i64 q7, .int .i64 q8, .int .i64 q9, .int .i64 q10, .int .i64 q11, .int .i64 q12, .slice a5 nq c5] 0 _ B9y.out) rfl).drew
           have X9 := put_ext (a := w) (B := (w.heap.size + 1 + 1 + 1)) (by omega) [.int .i64 u1, .int .i64 u2, .bool u3, .int .i64 u4, .int .i64 u5, .int .i64 u6, .int .i64 u7, .bool u8, .slice a7 nu c7] 0 _ (put_ext (a := w) (B := (w.heap.size + 1 + 1)) (by omega) [.int .i64 q1, .int .i64 q2, .int .i64 q3, .int .i64 q4, .bool q5, .int .i64 q6, .int .i64 q7, .int .i64 q8, .int .i64 q9, .int .i64 q10, .int .i64 q11, .int .i64 q12, .slice a5 nq c5] 0 _ Xy.out)
           replace X9 := X9.drew
           have RQ9 := ((((RQy.out.agree (agree_put (V := Old W) (B := (w.heap.size + 1 + 1)) (show (w.heap.size + 1 + 1) < W.heap.size from l8W) [.int .i64 q1, .int .i64 q2, .int .i64 q3, .int .i64 q4, .bool q5, .int .i64 q6, .int .i64 q7, .int .i64 q8, .int .i64 q9, .int .i64 q10, .int .i64 q11, .int .i64 q12, .slice a5 nq c5] 0 wy)).agree (agree_put (V := Old W) (B := (w.heap.size + 1 + 1 + 1)) (show (w.heap.size + 1 + 1 + 1) < W.heap.size from l9W) [.int .i64 u1, .int .i64 u2, .bool u3, .int .i64 u4, .int .i64 u5, .int .i64 u6, .int .i64 u7, .bool u8, .slice a7 nu c7] 0 _))).ext (Ext.refl _).drew).weak (by omega) (V' := Old w) (fun g _ hg => X0.lt hg)
           have RT9 := ((((RTy.out.agree (agree_put (V := Old W) (B := (w.heap.size + 1 + 1)) (show (w.heap.size + 1 + 1) < W.heap.size from l8W) [.int .i64 q1, .int .i64 q2, .int .i64 q3, .int .i64 q4, .bool q5, .int .i64 q6, .int .i64 q7, .int .i64 q8, .int .i64 q9, .int .i64 q10, .int .i64 q11, .int .i64 q12, .slice a5 nq c5] 0 wy)).agree (agree_put (V := Old W) (B := (w.heap.size + 1 + 1 + 1)) (show (w.heap.size + 1 + 1 + 1) < W.heap.size from l9W) [.int .i64 u1, .int .i64 u2, .bool u3, .int .i64 u4, .int .i64 u5, .int .i64 u6, .int .i64 u7, .bool u8, .slice a7 nu c7] 0 _))).ext (Ext.refl _).drew).weak (by omega) (V' := Old w) (fun g _ hg => X0.lt hg)
           rw [hW9] at C1 C2 X9 RQ9 RT9
           clear hW9
           have ck1 := C1.cell
           have ck2 := C2.cell
           have HC1 := Lib.hid C1
           have HC2 := Lib.hid C2
           clear C1 C2 qt qs
           go_wp2_with fail
           exact bodyPost_ret (v := .tuple #[.agg #[.int .i64 q1, .int .i64 q2, .int .i64 q3, .int .i64 q4, .bool q5, .int .i64 q6, .int .i64 q7, .int .i64 q8, .int .i64 q9, .int .i64 q10, .int .i64 q11, .int .i64 q12, .slice a5 nq c5], .agg #[.int .i64 u1, .int .i64 u2, .bool u3, .int .i64 u4, .int .i64 u5, .int .i64 u6, .int .i64 u7, .bool u8, .slice a7 nu c7]]) (by simp [results, Try.results41, go_sem, ck1, ck2]) rfl (HF.out _ _ _ _ _ X9 RQ9 RT9))
        | (obtain ⟨w9, hW9⟩ : ∃ w9, (put (put wy (w.heap.size + 1 + 1 + 1) 0 [.int .i64 u1, .int .i64 u2, .bool u3, .int .i64 u4, .int .i64 u5, .int .i64 u6, .int .i64 u7, .bool u8, .slice a7 nu c7]) (w.heap.size + 1 + 1) 0 [.int .i64 q1, .int .i64 q2, .int .i64 q3, .int .i64 q4, .bool q5, .int .i64 q6, .int .i64 q7, .int .i64 q8, .int .i64 q9, .int .i64 q10, .int .i64 q11, .int .i64 q12, .slice a5 nq c5]).drew = w9 := ⟨_, rfl⟩
           have hW8 := hW9
           simp only [put, Nat.reduceAdd] at hW8
           rw [hW8]
           clear hW8
           have C1 := (put_other (B := (w.heap.size + 1 + 1 + 1)) (B' := (w.heap.size + 1 + 1)) (by omega) [.int .i64 q1, .int .i64 q2, .int .i64 q3, .int .i64 q4, .bool q5, .int .i64 q6, .int .i64 q7, .int .i64 q8, .int .i64 q9, .int .i64 q10, .int .i64 q11, .int .i64 q12, .slice a5 nq c5] 0 _ (put_all (vs := [.int .i64 u1, .int .i64 u2, .bool u3, .int .i64 u4, .int .i64 u5, .int .i64 u6, .int .i64 u7, .bool u8, .slice a7 nu c7]) B9y.out rfl)).drew
           have C2 := (put_all (vs := [.int .i64 q1, .int .i64 q2, .int .i64 q3, .int .i64 q4, .bool q5, .int .i64 q6, .int .i64 q7, .int .i64 q8, .int .i64 q9, .int .i64 q10, .int .i64 q11, .int .i64 q12, .slice a5 nq c5]) (put_other (B := (w.heap.size + 1 + 1)) (B' := (w.heap.size + 1 + 1 + 1)) (by omega) [.int .i64 u1, .int .i64 u2, .bool u3, .int .i64 u4, .int .i64 u5, .int .i64 u6, .int .i64 u7, .bool u8, .slice a7 nu c7] 0 _ B8y.out) rfl).drew
           have X9 := put_ext (a := w) (B := (w.heap.size + 1 + 1)) (by omega) [.int .i64 q1, .int .i64 q2, .int .i64 q3, .int .i64 q4, .bool q5, .int .i64 q6, .int .i64 q7, .int .i64 q8, .int .i64 q9, .int .i64 q10, .int .i64 q11, .int .i64 q12, .slice a5 nq c5] 0 _ (put_ext (a := w) (B := (w.heap.size + 1 + 1 + 1)) (by omega) [.int .i64 u1, .int .i64 u2, .bool u3, .int .i64 u4, .int .i64 u5, .int .i64 u6, .int .i64 u7, .bool u8, .slice a7 nu c7] 0 _ Xy.out)
           replace X9 := X9.drew
           have RQ9 := ((((RQy.out.agree (agree_put (V := Old W) (B := (w.heap.size + 1 + 1 + 1)) (show (w.heap.size + 1 + 1 + 1) < W.heap.size from l9W) [.int .i64 u1, .int .i64 u2, .bool u3, .int .i64 u4, .int .i64 u5, .int .i64 u6, .int .i64 u7, .bool u8, .slice a7 nu c7] 0 wy)).agree (agree_put (V := Old W) (B := (w.heap.size + 1 + 1)) (show (w.heap.size + 1 + 1) < W.heap.size from l8W) [.int .i64 q1, .int .i64 q2, .int .i64 q3, .int .i64 q4, .bool q5, .int .i64 q6, .int .i64 q7, .int .i64 q8, .int .i64 q9, .int .i64 q10, .int .i64 q11, .int .i64 q12, .slice a5 nq c5] 0 _))).ext (Ext.refl _).drew).weak (by omega) (V' := Old w) (fun g _ hg => X0.lt hg)
           have RT9 := ((((RTy.out.agree (agree_put (V := Old W) (B := (w.heap.size + 1 + 1 + 1)) (show (w.heap.size + 1 + 1 + 1) < W.heap.size from l9W) [.int .i64 u1, .int .i64 u2, .bool u3, .int .i64 u4, .int .i64 u5, .int .i64 u6, .int .i64 u7, .bool u8, .slice a7 nu c7] 0 wy)).agree (agree_put (V := Old W) (B := (w.heap.size + 1 + 1)) (show (w.heap.size + 1 + 1) < W.heap.size from l8W) [.int .i64 q1, .int .i64 q2, .int .i64 q3, .int .i64 q4, .bool q5, .int .i64 q6, .int .i64 q7, .int .i64 q8, .int .i64 q9, .int .i64 q10, .int .i64 q11, .int .i64 q12, .slice a5 nq c5] 0 _))).ext (Ext.refl _).drew).weak (by omega) (V' := Old w) (fun g _ hg => X0.lt hg)
           rw [hW9] at C1 C2 X9 RQ9 RT9
           clear hW9
           have ck1 := C1.cell
           have ck2 := C2.cell
           have HC1 := Lib.hid C1
           have HC2 := Lib.hid C2
           clear C1 C2 qt qs
           go_wp2_with fail
           exact bodyPost_ret (v := .tuple #[.agg #[.int .i64 q1, .int .i64 q2, .int .i64 q3, .int .i64 q4, .bool q5, .int .i64 q6, .int .i64 q7, .int .i64 q8, .int .i64 q9, .int .i64 q10, .int .i64 q11, .int .i64 q12, .slice a5 nq c5], .agg #[.int .i64 u1, .int .i64 u2, .bool u3, .int .i64 u4, .int .i64 u5, .int .i64 u6, .int .i64 u7, .bool u8, .slice a7 nu c7]]) (by simp [results, Try.results41, go_sem, ck1, ck2]) rfl (HF.out _ _ _ _ _ X9 RQ9 RT9))
end Go.Proofs.Ytopmhaebjpmbfaa
