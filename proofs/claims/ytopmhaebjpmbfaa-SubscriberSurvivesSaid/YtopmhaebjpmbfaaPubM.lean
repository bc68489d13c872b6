/- What holds behind 't, m := publisher.Step(s, ..)', with the new memory outside all that was there. -/
import Derived.Test.YtopmhaebjpmbfaaPubL
namespace Go.Proofs.Ytopmhaebjpmbfaa
open Go.RowKit
/-- t lies in block tb, s as before in block B; values and messages lie in new blocks. -/
def AftO (w wx : World) (B tb : Nat) (S : Array Value) (n : PSt) (ms : List Msg) (a5 : Option Addr) (c5 : Nat) (a6 : Option Addr) (c6 : Nat) : Prop :=
  Bk wx tb 28 (pubC n (.slice a5 n.vals.length c5)) ∧ Bk wx B 28 S ∧ w.heap.size ≤ tb ∧ RF (Old w) 6 valE wx (.slice a5 n.vals.length c5) n.vals ∧ RS (Old w) 10 (msgRep (Old w)) wx (.slice a6 ms.length c6) ms ∧ Ext w wx
theorem msgRep.weak {V V' : Nat → Prop} {w : World} {m : Msg} {cs : List Value} (h : msgRep V w m cs) (hv : ∀ g, g < w.heap.size → V' g → V g) : msgRep V' w m cs := by
  obtain ⟨a, c, e, hr⟩ := h
  exact ⟨a, c, e, hr.weak (by omega) hv⟩
section
variable {w W w5 : World} {B tb : Nat} {S Z : Array Value} {n : PSt} {ms : List Msg} {a5 a6 : Option Addr} {c5 c6 : Nat}
theorem aftO_put (hE : Ext w W) (x5 : Ext W w5) (hS : Bk W B 28 S) (hT : Bk W tb 28 Z) (hz : Z.size = 13) (hne : tb ≠ B) (hle : w.heap.size ≤ tb)
    (r5 : RF (Old W) 6 valE w5 (.slice a5 n.vals.length c5) n.vals) (m5 : RS (Old W) 10 (msgRep (Old W)) w5 (.slice a6 ms.length c6) ms) : AftO w (put w5 tb 0 (pubC n (.slice a5 n.vals.length c5)).toList) B tb S n ms a5 c5 a6 c6 :=
  ⟨put_all (hT.ext x5) (by rw [hz]; rfl), put_other hne _ 0 _ (hS.ext x5), hle, (r5.agree (agree_put (V := Old W) hT.lt _ 0 _)).weak (by omega) (fun g _ hg => hE.lt hg),
    RS.weak (RS.agree m5 (agree_put (V := Old W) hT.lt _ 0 _) (fun _ _ _ hm => msgRep.agree hm (agree_put (V := Old W) hT.lt _ 0 _))) (by omega) (fun g _ hg => hE.lt hg) (fun _ _ _ hm => msgRep.weak hm (fun g _ hg => hE.lt hg)), put_ext hle _ 0 _ (hE.trans x5)⟩
theorem aftO_new (hE : Ext w W) (x5 : Ext W w5) (hS : Bk W B 28 S)
    (r5 : RF (Old W) 6 valE w5 (.slice a5 n.vals.length c5) n.vals) (m5 : RS (Old W) 10 (msgRep (Old W)) w5 (.slice a6 ms.length c6) ms) : AftO w (w5.alloc (.cells (pubC n (.slice a5 n.vals.length c5)) 28)) B w5.heap.size S n ms a5 c5 a6 c6 :=
  ⟨Bk.new _ _ _ _ rfl, (hS.ext x5).alloc _, (hE.trans x5).size, (r5.ext ((Ext.refl _).alloc _)).weak (by omega) (fun g _ hg => hE.lt hg),
    RS.weak (RS.agree m5 (((Ext.refl w5).alloc _).agree _) (fun _ _ _ hm => msgRep.ext hm ((Ext.refl _).alloc _))) (by omega) (fun g _ hg => hE.lt hg) (fun _ _ _ hm => msgRep.weak hm (fun g _ hg => hE.lt hg)), (hE.trans x5).alloc _⟩
end
end Go.Proofs.Ytopmhaebjpmbfaa
