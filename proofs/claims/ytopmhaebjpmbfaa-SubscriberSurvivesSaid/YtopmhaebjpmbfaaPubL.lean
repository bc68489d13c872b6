/- The cells of the one message that a step sends; the rows of messages. -/
import Derived.Test.YtopmhaebjpmbfaaPubF
namespace Go.Proofs.Ytopmhaebjpmbfaa
open Go.RowKit
theorem msgRep.ext {V : Nat → Prop} {w w' : World} {m : Msg} {cs : List Value} (h : msgRep V w m cs) (he : Ext w w') : msgRep V w' m cs := by
  obtain ⟨a, c, e, hr⟩ := h
  exact ⟨a, c, e, hr.ext he⟩
theorem msgRep.agree {V : Nat → Prop} {w w' : World} {m : Msg} {cs : List Value} (h : msgRep V w m cs) (he : Agree V w w') : msgRep V w' m cs := by
  obtain ⟨a, c, e, hr⟩ := h
  exact ⟨a, c, e, hr.agree he⟩
/-- What holds behind 't, m := publisher.Step(s, ..)': t lies in block tb, s as before in block B. -/
def Aft (w wx : World) (B tb : Nat) (S : Array Value) (n : PSt) (ms : List Msg) (a5 : Option Addr) (c5 : Nat) (a6 : Option Addr) (c6 : Nat) : Prop :=
  Bk wx tb 28 (pubC n (.slice a5 n.vals.length c5)) ∧ Bk wx B 28 S ∧ tb ≠ B ∧ RF (· = B) 6 valE wx (.slice a5 n.vals.length c5) n.vals ∧ RS Any 10 (msgRep Any) wx (.slice a6 ms.length c6) ms ∧ Ext w wx
theorem msgRep.any {V : Nat → Prop} {w : World} {m : Msg} {cs : List Value} (h : msgRep V w m cs) : msgRep Any w m cs := by
  obtain ⟨a, c, e, hr⟩ := h
  exact ⟨a, c, e, hr.weak (by omega) (fun _ _ h => h.elim)⟩
section
variable {w W w5 : World} {B tb : Nat} {S Z : Array Value} {n : PSt} {ms : List Msg} {a5 a6 : Option Addr} {c5 c6 : Nat}
theorem aft_put (hE : Ext w W) (x5 : Ext W w5) (hS : Bk W B 28 S) (hT : Bk W tb 28 Z) (hz : Z.size = 13) (hne : tb ≠ B) (hle : w.heap.size ≤ tb)
    (r5 : RF (Old W) 6 valE w5 (.slice a5 n.vals.length c5) n.vals) (m5 : RS (Old W) 10 (msgRep (Old W)) w5 (.slice a6 ms.length c6) ms) : Aft w (put w5 tb 0 (pubC n (.slice a5 n.vals.length c5)).toList) B tb S n ms a5 c5 a6 c6 :=
  ⟨put_all (hT.ext x5) (by rw [hz]; rfl), put_other hne _ 0 _ (hS.ext x5), hne, (r5.agree (agree_put (V := Old W) hT.lt _ 0 _)).weak (by omega) (fun g _ hg => by rw [hg]; exact hS.lt),
    RS.weak (RS.agree m5 (agree_put (V := Old W) hT.lt _ 0 _) (fun _ _ _ hm => msgRep.agree hm (agree_put (V := Old W) hT.lt _ 0 _))) (by omega) (fun _ _ h => h.elim) (fun _ _ _ hm => msgRep.any hm), put_ext hle _ 0 _ (hE.trans x5)⟩
theorem aft_new (hE : Ext w W) (x5 : Ext W w5) (hS : Bk W B 28 S)
    (r5 : RF (Old W) 6 valE w5 (.slice a5 n.vals.length c5) n.vals) (m5 : RS (Old W) 10 (msgRep (Old W)) w5 (.slice a6 ms.length c6) ms) : Aft w (w5.alloc (.cells (pubC n (.slice a5 n.vals.length c5)) 28)) B w5.heap.size S n ms a5 c5 a6 c6 :=
  ⟨Bk.new _ _ _ _ rfl, (hS.ext x5).alloc _, (by have := (hS.ext x5).lt; omega), (r5.ext ((Ext.refl _).alloc _)).weak (by omega) (fun g _ hg => by rw [hg]; exact hS.lt),
    RS.weak (RS.agree m5 (((Ext.refl w5).alloc _).agree _) (fun _ _ _ hm => msgRep.ext hm ((Ext.refl _).alloc _))) (by omega) (fun _ _ h => h.elim) (fun _ _ _ hm => msgRep.any hm), (hE.trans x5).alloc _⟩
theorem Aft.drew {wx : World} (h : Aft w wx B tb S n ms a5 c5 a6 c6) : Aft w wx.drew B tb S n ms a5 c5 a6 c6 :=
  ⟨h.1.drew, h.2.1.drew, h.2.2.1, h.2.2.2.1.ext (Ext.refl _).drew, RS.agree h.2.2.2.2.1 ((Ext.refl wx).drew.agree _) (fun _ _ _ hm => msgRep.ext hm (Ext.refl _).drew), h.2.2.2.2.2.drew⟩
end
theorem msg_get {V : Nat → Prop} {w : World} {v : Value} {m : Msg} (h : RS V 10 (msgRep V) w v [m]) : ∃ b off c a' c', v = .slice (some ⟨b, off, none⟩) 1 c ∧ ¬ V b ∧
    w.cell? ⟨b, off, none⟩ = some (.int .i64 m.pub) ∧ w.cell? ⟨b, off + 1, none⟩ = some (.int .i64 m.ttl) ∧ w.cell? ⟨b, off + 2, none⟩ = some (.int .i64 m.sec) ∧ w.cell? ⟨b, off + 3, none⟩ = some (.int .i64 m.frac) ∧ w.cell? ⟨b, off + 4, none⟩ = some (.int .i64 m.qual) ∧
    w.cell? ⟨b, off + 5, none⟩ = some (.int .i64 m.state) ∧ w.cell? ⟨b, off + 6, none⟩ = some (.int .i64 m.seq) ∧ w.cell? ⟨b, off + 7, none⟩ = some (.bool m.test) ∧ w.cell? ⟨b, off + 8, none⟩ = some (.int .i64 m.rev) ∧ w.cell? ⟨b, off + 9, none⟩ = some (.slice a' m.vals.length c') ∧
    RF V 6 valE w (.slice a' m.vals.length c') m.vals := by
  obtain ⟨b, off, c, cs, hv, _, hV, _, ⟨a', c', rfl, hr⟩, hc⟩ := h.at_ (i := 0) (by simp)
  simp only [Nat.zero_mul, Nat.add_zero] at hc
  exact ⟨b, off, c, a', c', hv, hV, hc 0 _ rfl, hc 1 _ rfl, hc 2 _ rfl, hc 3 _ rfl, hc 4 _ rfl, hc 5 _ rfl, hc 6 _ rfl, hc 7 _ rfl, hc 8 _ rfl, hc 9 _ rfl, hr⟩
end Go.Proofs.Ytopmhaebjpmbfaa
