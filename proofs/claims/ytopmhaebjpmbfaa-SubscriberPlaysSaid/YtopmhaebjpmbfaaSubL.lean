/- What holds behind 't, k := subscriber.Take(s, ..)'. -/
import Derived.Test.YtopmhaebjpmbfaaSubA
namespace Go.Proofs.Ytopmhaebjpmbfaa
open Go.RowKit
/-- t lies in block tb, s as before in block B. -/
def AftS (w wx : World) (B tb : Nat) (S : Array Value) (n : SSt) (a : Option Addr) (c : Nat) : Prop :=
  Bk wx tb 50 (subC n (.slice a n.vals.length c)) ∧ Bk wx B 50 S ∧ tb ≠ B ∧ RF (· = B) 6 valE wx (.slice a n.vals.length c) n.vals ∧ Ext w wx
section
variable {w W w5 : World} {B tb : Nat} {S Z : Array Value} {n : SSt} {a : Option Addr} {c : Nat}
theorem aftS_put (hE : Ext w W) (x5 : Ext W w5) (hS : Bk W B 50 S) (hT : Bk W tb 50 Z) (hz : Z.size = 9) (hne : tb ≠ B) (hle : w.heap.size ≤ tb) (r5 : RF (Old W) 6 valE w5 (.slice a n.vals.length c) n.vals) :
    AftS w (put w5 tb 0 (subC n (.slice a n.vals.length c)).toList) B tb S n a c :=
  ⟨put_all (hT.ext x5) (by rw [hz]; rfl), put_other hne _ 0 _ (hS.ext x5), hne, (r5.agree (agree_put (V := Old W) hT.lt _ 0 _)).weak (by omega) (fun g _ hg => by rw [hg]; exact hS.lt), put_ext hle _ 0 _ (hE.trans x5)⟩
theorem aftS_new (hE : Ext w W) (x5 : Ext W w5) (hS : Bk W B 50 S) (r5 : RF (Old W) 6 valE w5 (.slice a n.vals.length c) n.vals) :
    AftS w (w5.alloc (.cells (subC n (.slice a n.vals.length c)) 50)) B w5.heap.size S n a c :=
  ⟨Bk.new _ _ _ _ rfl, (hS.ext x5).alloc _, (by have := (hS.ext x5).lt; omega), (r5.ext ((Ext.refl _).alloc _)).weak (by omega) (fun g _ hg => by rw [hg]; exact hS.lt), (hE.trans x5).alloc _⟩
end
end Go.Proofs.Ytopmhaebjpmbfaa
