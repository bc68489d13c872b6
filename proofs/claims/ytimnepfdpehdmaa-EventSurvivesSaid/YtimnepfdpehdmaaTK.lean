/- Take, whatever comes: layer 14. -/
import Derived.Test.YtimnepfdpehdmaaSubC
import Derived.Test.YtimnepfdpehdmaaSubD
import Derived.Test.YtimnepfdpehdmaaTJ
namespace Go.Proofs.Ytimnepfdpehdmaa
open Go.RowKit

theorem chkM_zeroS {m : Msg} (h : chkM m = 0) : 0 ≤ m.pub ∧ m.pub ≤ 999 ∧ 1 ≤ m.ttl ∧ m.ttl ≤ 65535 ∧ 1 ≤ m.state ∧ m.state ≤ 4294967295 ∧ 0 ≤ m.seq ∧ m.seq ≤ 4294967295 ∧ m.vals.length ≤ 24 := by
  unfold chkM at h
  split at h
  · cases h
  · split at h
    · cases h
    · split at h
      · contradiction
      · split at h
        · cases h
        · refine ⟨by omega, by omega, by omega, by omega, by omega, by omega, by omega, by omega, by omega⟩
theorem takeSub_all (s : SSt) (m : Msg) (v u : Value) (w : World) (hv : RF Any 6 valE w v s.vals) (hu : RF Any 6 valE w u m.vals) (hl : s.vals.length ≤ 1000000000) (hlo : -9223372036854775808 ≤ s.lost ∧ s.lost ≤ 9223372036854775807) :
    Calls Try.prog 28 #[subA s v, msgA m u] w (RetT w (takeS s m)) := by
  unfold takeS
  by_cases hck : chkM m = 0
  · obtain ⟨k1, k2, k3, k4, k5, k6, k7, k8, k9⟩ := chkM_zeroS hck
    have hl' : m.vals.length ≤ 1000000000 := by omega
    have hwr : ∀ k : Int, 0 ≤ k → k ≤ 100000000000 → s.lost < 1000000 → IntKind.i64.wrap (s.lost + k) = s.lost + k := fun k h1 h2 h3 => IntWalk.i64_in _ (by omega)
    by_cases hpub : m.pub = s.pub
    · by_cases hrev : m.rev = s.rev
      · rw [if_neg (by intro h; rcases h with h | h | h <;> contradiction)]
        cases hkn : s.known
        · rw [if_pos rfl]
          exact take_first s m v u w hv hu hl' hck hpub hrev hkn (hwr 0 (by omega) (by omega))
        · rw [if_neg (by simp)]
          by_cases hlf : s.left < 1
          · rw [if_pos hlf]
            exact take_restart s m v u w hv hu hl' hck hpub hrev hkn hlf (hwr 0 (by omega) (by omega))
          · rw [if_neg hlf]
            by_cases hst : m.state = s.state
            · rw [if_pos hst]
              cases hnb : newB s.seq m.seq
              · rw [if_neg (by simp)]
                exact take_old1 s m v u w hv hu hl hck hpub hrev hkn hlf hst hnb
              · by_cases hte : m.test = s.test
                · by_cases hva : m.vals = s.vals
                  · rw [if_pos ⟨rfl, hte, hva⟩]
                    have h1 : 1 ≤ dist s.seq m.seq ∧ dist s.seq m.seq ≤ 2147483647 := by
                      unfold newB at hnb
                      simpa using hnb
                    exact take_rep s m v u w hv hu hl' hck hpub hrev hkn hlf hst hnb hte hva (hwr _ (by omega) (by omega))
                  · rw [if_neg (by intro h; exact hva h.2.2)]
                    exact take_old3 s m v u w hv hu hl hck hpub hrev hkn hlf hst hnb hte hva
                · rw [if_neg (by intro h; exact hte h.2.1)]
                  cases h8 : s.test
                  · exact take_old2b s m v u w hv hu hl hck hpub hrev hkn hlf hst hnb h8 (by rw [h8] at hte; simpa using hte)
                  · exact take_old2a s m v u w hv hu hl hck hpub hrev hkn hlf hst hnb h8 (by rw [h8] at hte; simpa using hte)
            · rw [if_neg hst]
              cases hnb : newB s.state m.state
              · rw [if_neg (by simp)]
                exact take_old4 s m v u w hv hu hl hck hpub hrev hkn hlf hst hnb
              · rw [if_pos rfl]
                have h1 : 1 ≤ dist s.state m.state ∧ dist s.state m.state ≤ 2147483647 := by
                  unfold newB at hnb
                  simpa using hnb
                exact take_change s m v u w hv hu hl' hck hpub hrev hkn hlf hst hnb ⟨k7, k8⟩ (hwr _ (by omega) (by omega))
      · rw [if_pos (.inr (.inr hrev))]
        exact take_rev s m v u w hv hu hl hck hpub hrev
    · rw [if_pos (.inr (.inl hpub))]
      exact take_pub s m v u w hv hu hl hck hpub
  · rw [if_pos (.inl hck)]
    exact take_chk s m v u w hv hu hl hck
theorem take_any (s : SSt) (m : Msg) (v u : Value) (w : World) (hv : RF Any 6 valE w v s.vals) (hu : RF Any 6 valE w u m.vals) (hl : s.vals.length ≤ 1000000000) (hlo : -9223372036854775808 ≤ s.lost ∧ s.lost ≤ 9223372036854775807 - 100000000000) :
    Calls Try.prog 28 #[subA s v, msgA m u] w (RetT w (takeS s m)) := takeSub_all s m v u w hv hu hl ⟨hlo.1, by omega⟩
end Go.Proofs.Ytimnepfdpehdmaa

namespace Go.Proofs.Ytimnepfdpehdmaa
open Go.RowKit
/-- t lies in block tb, s as before in block B. -/
def AftS (w wx : World) (B tb : Nat) (S : Array Value) (n : SSt) (a : Option Addr) (c : Nat) : Prop :=
  Bk wx tb 34 (subC n (.slice a n.vals.length c)) ∧ Bk wx B 34 S ∧ tb ≠ B ∧ RF (· = B) 6 valE wx (.slice a n.vals.length c) n.vals ∧ Ext w wx
section
variable {w W w5 : World} {B tb : Nat} {S Z : Array Value} {n : SSt} {a : Option Addr} {c : Nat}
theorem aftS_put (hE : Ext w W) (x5 : Ext W w5) (hS : Bk W B 34 S) (hT : Bk W tb 34 Z) (hz : Z.size = 9) (hne : tb ≠ B) (hle : w.heap.size ≤ tb) (r5 : RF (Old W) 6 valE w5 (.slice a n.vals.length c) n.vals) :
    AftS w (put w5 tb 0 (subC n (.slice a n.vals.length c)).toList) B tb S n a c :=
  ⟨put_all (hT.ext x5) (by rw [hz]; rfl), put_other hne _ 0 _ (hS.ext x5), hne, (r5.agree (agree_put (V := Old W) hT.lt _ 0 _)).weak (by omega) (fun g _ hg => by rw [hg]; exact hS.lt), put_ext hle _ 0 _ (hE.trans x5)⟩
theorem aftS_new (hE : Ext w W) (x5 : Ext W w5) (hS : Bk W B 34 S) (r5 : RF (Old W) 6 valE w5 (.slice a n.vals.length c) n.vals) :
    AftS w (w5.alloc (.cells (subC n (.slice a n.vals.length c)) 34)) B w5.heap.size S n a c :=
  ⟨Bk.new _ _ _ _ rfl, (hS.ext x5).alloc _, (by have := (hS.ext x5).lt; omega), (r5.ext ((Ext.refl _).alloc _)).weak (by omega) (fun g _ hg => by rw [hg]; exact hS.lt), (hE.trans x5).alloc _⟩
end
end Go.Proofs.Ytimnepfdpehdmaa
