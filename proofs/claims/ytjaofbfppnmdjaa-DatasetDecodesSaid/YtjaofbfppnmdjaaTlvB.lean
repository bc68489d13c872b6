/- Contracts of the statements' own helpers of layer 10: count, Deep, large. -/
import Derived.Test.YtjaofbfppnmdjaaTlvA
import Derived.Test.YtjaofbfppnmdjaaNd
namespace Go.Proofs.Ytjaofbfppnmdjaa
open Go.RowKit
attribute [local go_sem ↓] Go.wp_at_zero Go.wp_at_succ

/-! ### count -/
def cntS {α : Type} (ck : List α → Nat) (l : List (NodeOf α)) : Nat := l.length + (l.map fun x => x.2.1.length + ck x.2.2).sum
def cntN : (n : Nat) → List (Nd n) → Nat
  | 0, _ => 0
  | n + 1, l => cntS (cntN n) l

/-! ### Deep -/
def deepS {α : Type} (dk : List α → Int → Bool) (l : List (NodeOf α)) (n : Int) : Bool := l.any fun x => decide (n < 0) || dk x.2.2 (n - 1)
def deepN : (n : Nat) → List (Nd n) → Int → Bool
  | 0, _, _ => false
  | n + 1, l, m => deepS (deepN n) l m

set_option maxHeartbeats 400000 in
theorem deep_step {α : Type} (R : Rk α) (V : Nat → Prop) (dk : List α → Int → Bool) (l : List (NodeOf α)) (m : Int) (v : Value) (w : World) (h : (nodesRk R).rk V w v l) (hm1 : -1 ≤ m) (hm2 : m ≤ 100)
    (hk : 0 ≤ m → ∀ x ∈ l, ∀ w1 kv, R.rk V w1 kv x.2.2 → Calls Try.prog 31 #[kv, .int .i64 (m - 1)] w1 fun e w' => e = .returned (.bool (dk x.2.2 (m - 1))) ∧ Ext w1 w') :
    Calls Try.prog 31 #[v, .int .i64 m] w fun e w' => e = .returned (.bool (deepS dk l m)) ∧ Ext w w' := by
  obtain ⟨a, c, rfl, hc1, hc2⟩ := (nodesRk R).form h
  have HH := Lib.hid h
  have HK := Lib.hid hk
  have hmax : l.length ≤ 9223372036854775807 := by unfold maxLen at hc2; omega
  clear h hk hc2
  go_enter Try.func31, Try.ntmps31
  go_wp2
  go_loopw [5] (fun i wr => ∃ (k : Nat), k ≤ l.length ∧ i = .int .i64 k ∧ deepS dk (l.take k) m = false ∧ Ext w wr) (fun i _ => l.length - (intOf i).toNat)
  case atStart => exact ⟨0, Nat.zero_le _, rfl, by simp [deepS], Ext.refl _⟩
  case round =>
    obtain ⟨k, hk1, rfl, hno, hx⟩ := hrel
    have HNO := Lib.hid hno
    clear hno
    by_cases hlt : k < l.length
    · have hsum := any_take_succ (fun x => decide (m < 0) || dk x.2.2 (m - 1)) l k hlt
      have HE := Lib.hid (show deepS dk (l.take (k + 1)) m = (deepS dk (l.take k) m || (decide (m < 0) || dk (l[k]).2.2 (m - 1))) from hsum)
      clear hsum
      by_cases hm0 : m < 0
      · go_wp2
        go_ret
        refine ⟨ret_bool ?_, hx⟩
        have : (l.any fun x => decide (m < 0) || dk x.2.2 (m - 1)) = true := List.any_eq_true.2 ⟨l[k], List.getElem_mem hlt, by simp [hm0]⟩
        exact this.symm
      · obtain ⟨b, off, c', da, dc, ka, kc, hv, hcap, _, g0, g1, g2, hd, hkk⟩ := node_at ((nodesRk R).ext HH.out hx) hlt
        have hcall := Lib.hid (HK.out (by omega) l[k] (List.getElem_mem hlt))
        generalize hx1 : l[k] = x at *
        obtain ⟨t, d, ks⟩ := x
        simp only at *
        have HX := Lib.hid hx1
        have HKK := Lib.hid hkk
        simp only [Value.slice.injEq] at hv
        obtain ⟨rfl, -, rfl⟩ := hv
        clear hx1 hkk hd g0 g1 HK
        have hki : (k : Int) < l.length := by omega
        have hm3 : 0 ≤ m := by omega
        generalize hr : dk ks (m - 1) = r at *
        have HR := Lib.hid hr
        clear hr
        cases r
        · go_wp2_with (go_at_call 31; refine (hcall.out _ _ HKK.out).mono ?_; rintro e w1 ⟨rfl, he1⟩)
          go_roundw
          case rel => exact ⟨k + 1, by omega, by go_num, by rw [HE.out, HNO.out]; simp; omega, hx.trans he1⟩
          case measure => simp [intOf]; omega
        · go_wp2_with (go_at_call 31; refine (hcall.out _ _ HKK.out).mono ?_; rintro e w1 ⟨rfl, he1⟩)
          go_ret
          refine ⟨ret_bool ?_, hx.trans he1⟩
          have : (l.any fun x => decide (m < 0) || dk x.2.2 (m - 1)) = true := List.any_eq_true.2 ⟨l[k], List.getElem_mem hlt, by simp [HX.out, HR.out]⟩
          exact this.symm
    · go_wp2
      go_ret
      refine ⟨ret_bool ?_, hx⟩
      have := HNO.out
      rw [take_all l k (by omega)] at this
      exact this.symm
theorem deep_any : ∀ (n : Nat) (V : Nat → Prop) (l : List (Nd n)) (m : Int) (v : Value) (w : World), (RkN n).rk V w v l → -1 ≤ m → m ≤ 100 →
    Calls Try.prog 31 #[v, .int .i64 m] w fun e w' => e = .returned (.bool (deepN n l m)) ∧ Ext w w'
  | 0, V, l, m, v, w, h, h1, h2 => by
    have hl := nd_zero l
    subst hl
    exact deep_step (α := Empty) emptyRk V (fun _ _ => false) [] m v w (rkn_zero h) h1 h2 (fun _ x hx => by cases hx)
  | n + 1, V, l, m, v, w, h, h1, h2 => deep_step (RkN n) V (deepN n) l m v w h h1 h2 (fun h0 x hx w1 kv hkv => deep_any n V x.2.2 (m - 1) kv w1 hkv (by omega) (by omega))

def largeN (n : Nat) (l : List (Nd n)) : Bool := deepN n l 12 || decide (5000 < cntN n l)
end Go.Proofs.Ytjaofbfppnmdjaa
