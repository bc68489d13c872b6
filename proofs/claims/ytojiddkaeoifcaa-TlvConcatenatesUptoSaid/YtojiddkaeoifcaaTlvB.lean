/- Contracts of the statements' own helpers of layer 10: count, Deep, large. -/
import Derived.Test.YtojiddkaeoifcaaTlvA
import Derived.Test.YtojiddkaeoifcaaNd
namespace Go.Proofs.Ytojiddkaeoifcaa
open Go.RowKit
attribute [local go_sem ↓] Go.wp_at_zero Go.wp_at_succ

/-! ### count -/
def cntS {α : Type} (ck : List α → Nat) (l : List (NodeOf α)) : Nat := l.length + (l.map fun x => x.2.1.length + ck x.2.2).sum
def cntN : (n : Nat) → List (Nd n) → Nat
  | 0, _ => 0
  | n + 1, l => cntS (cntN n) l

set_option maxHeartbeats 400000 in
theorem count_step {α : Type} (R : Rk α) (V : Nat → Prop) (ck : List α → Nat) (l : List (NodeOf α)) (v : Value) (w : World) (h : (nodesRk R).rk V w v l)
    (hk : ∀ x ∈ l, ∀ w1 kv, R.rk V w1 kv x.2.2 → Calls Try.prog 27 #[kv] w1 fun e w' => e = .returned (.int .i64 (ck x.2.2)) ∧ Ext w1 w')
    (hb : cntS ck l ≤ 1000000000) : Calls Try.prog 27 #[v] w fun e w' => e = .returned (.int .i64 (cntS ck l)) ∧ Ext w w' := by
  obtain ⟨a, c, rfl, hc1, hc2⟩ := (nodesRk R).form h
  have hll : l.length ≤ 1000000000 := by unfold cntS at hb; omega
  have HB := Lib.hid hb
  have HH := Lib.hid h
  have HK := Lib.hid hk
  clear hb h hk hc2
  go_enter Try.func27, Try.ntmps27
  go_wp2
  go_loopw [3, 4] (fun s i wr => ∃ (k : Nat), k ≤ l.length ∧ i = .int .i64 k ∧ s = .int .i64 ((l.length + ((l.take k).map fun x => x.2.1.length + ck x.2.2).sum : Nat) : Int) ∧ Ext w wr) (fun _ i _ => l.length - (intOf i).toNat)
  case atStart => exact ⟨0, Nat.zero_le _, rfl, by simp, Ext.refl _⟩
  case round =>
    obtain ⟨k, hk1, rfl, rfl, hx⟩ := hrel
    by_cases hlt : k < l.length
    · obtain ⟨b, off, c', da, dc, ka, kc, hv, hcap, _, g0, g1, g2, hd, hkk⟩ := node_at ((nodesRk R).ext HH.out hx) hlt
      have hcall := Lib.hid (HK.out l[k] (List.getElem_mem hlt))
      have hsum := sum_take_succ (fun x => x.2.1.length + ck x.2.2) l k hlt
      have hle := sum_take_le (fun x : NodeOf α => x.2.1.length + ck x.2.2) l (k + 1)
      have hbb := HB.out
      unfold cntS at hbb
      generalize hS : ((l.take k).map fun x => x.2.1.length + ck x.2.2).sum = S at *
      generalize hS' : ((l.take (k + 1)).map fun x => x.2.1.length + ck x.2.2).sum = S' at *
      generalize hx1 : l[k] = x at *
      obtain ⟨t, d, ks⟩ := x
      simp only at *
      have HS := Lib.hid hsum
      have HS1 := Lib.hid hS
      have HS2 := Lib.hid hS'
      have b1 : S + d.length + ck ks + l.length ≤ 1000000000 := by omega
      have HX := Lib.hid hx1
      have HKK := Lib.hid hkk
      simp only [Value.slice.injEq] at hv
      obtain ⟨rfl, -, rfl⟩ := hv
      clear hsum hS hS' hx1 hkk hle hbb HB HK hd g0
      have hki : (k : Int) < l.length := by omega
      go_wp2
      go_region_held3 (fun w' => w'.cell? ⟨b, off + k * 3 + 1, none⟩ = some (.slice da d.length dc) ∧ w'.cell? ⟨b, off + k * 3 + 2, none⟩ = some (.slice ka ks.length kc))
        (first | exact ⟨g1, g2⟩ | exact ⟨he1.cell (by exact g1), he1.cell (by exact g2)⟩)
        (first | (go_at_call 27; refine (hcall.out _ _ (R.ext HKK.out (Ext.refl _).drew)).mono ?_; rintro e w1 ⟨rfl, he1⟩))
      go_wp2
      go_roundw
      case rel => exact ⟨k + 1, by omega, by go_num, by
        rw [HS2.out, HS.out, wrap_id ((l.length : Int) + S + d.length) (by omega) (by omega), wrap_id _ (by omega) (by omega)]
        exact val_int (by omega), hx.trans ((Ext.refl _).drew.trans he1)⟩
      case measure => simp [intOf]; omega
    · go_wp2
      go_ret
      exact ⟨ret_int (by unfold cntS; rw [take_all l k (by omega)]), hx⟩
theorem count_any : ∀ (n : Nat) (V : Nat → Prop) (l : List (Nd n)) (v : Value) (w : World), (RkN n).rk V w v l → cntN n l ≤ 1000000000 →
    Calls Try.prog 27 #[v] w fun e w' => e = .returned (.int .i64 (cntN n l)) ∧ Ext w w'
  | 0, V, l, v, w, h, _ => by
    have hl := nd_zero l
    subst hl
    exact count_step (α := Empty) emptyRk V (fun _ => 0) [] v w (rkn_zero h) (fun x hx => by cases hx) (by simp [cntS])
  | n + 1, V, l, v, w, h, hb => count_step (RkN n) V (cntN n) l v w h (fun x hx w1 kv hkv => count_any n V x.2.2 kv w1 hkv (by
      have h1 : cntS (cntN n) l ≤ 1000000000 := hb
      have h2 := sum_mem_le (fun x : NodeOf (Nd n) => x.2.1.length + cntN n x.2.2) l x hx
      unfold cntS at h1
      omega)) hb

/-! ### Deep -/
def deepS {α : Type} (dk : List α → Int → Bool) (l : List (NodeOf α)) (n : Int) : Bool := l.any fun x => decide (n < 0) || dk x.2.2 (n - 1)
def deepN : (n : Nat) → List (Nd n) → Int → Bool
  | 0, _, _ => false
  | n + 1, l, m => deepS (deepN n) l m

set_option maxHeartbeats 400000 in
theorem deep_step {α : Type} (R : Rk α) (V : Nat → Prop) (dk : List α → Int → Bool) (l : List (NodeOf α)) (m : Int) (v : Value) (w : World) (h : (nodesRk R).rk V w v l) (hm1 : -1 ≤ m) (hm2 : m ≤ 100)
    (hk : 0 ≤ m → ∀ x ∈ l, ∀ w1 kv, R.rk V w1 kv x.2.2 → Calls Try.prog 26 #[kv, .int .i64 (m - 1)] w1 fun e w' => e = .returned (.bool (dk x.2.2 (m - 1))) ∧ Ext w1 w') :
    Calls Try.prog 26 #[v, .int .i64 m] w fun e w' => e = .returned (.bool (deepS dk l m)) ∧ Ext w w' := by
  obtain ⟨a, c, rfl, hc1, hc2⟩ := (nodesRk R).form h
  have HH := Lib.hid h
  have HK := Lib.hid hk
  have hmax : l.length ≤ 9223372036854775807 := by unfold maxLen at hc2; omega
  clear h hk hc2
  go_enter Try.func26, Try.ntmps26
  go_wp2
  go_loopw [5] (fun i wr => ∃ (k : Nat), k ≤ l.length ∧ i = .int .i64 k ∧ deepS dk (l.take k) m = false ∧ Ext w wr) (fun i _ => l.length - (intOf i).toNat)
  case atStart => exact ⟨0, Nat.zero_le _, rfl, by simp [deepS], Ext.refl _⟩
  case round =>
    obtain ⟨k, hk1, rfl, hno, hx⟩ := hrel
    have HNO := Lib.hid hno
    clear hno
    by_cases hlt : k < l.length
    · have hsum := any_take_succ (fun x => decide (m < 0) || dk x.2.2 (m - 1)) l k hlt
      have HE := Lib.hid (show deepS dk (l.take (k + 1)) m = (deepS dk (l.take k) m || (decide (m < 0) || dk (l[k]).2.2 (m - 1))) from hsum)
      clear hsum
      by_cases hm0 : m < 0
      · go_wp2
        go_ret
        refine ⟨ret_bool ?_, hx⟩
        have : (l.any fun x => decide (m < 0) || dk x.2.2 (m - 1)) = true := List.any_eq_true.2 ⟨l[k], List.getElem_mem hlt, by simp [hm0]⟩
        exact this.symm
      · obtain ⟨b, off, c', da, dc, ka, kc, hv, hcap, _, g0, g1, g2, hd, hkk⟩ := node_at ((nodesRk R).ext HH.out hx) hlt
        have hcall := Lib.hid (HK.out (by omega) l[k] (List.getElem_mem hlt))
        generalize hx1 : l[k] = x at *
        obtain ⟨t, d, ks⟩ := x
        simp only at *
        have HX := Lib.hid hx1
        have HKK := Lib.hid hkk
        simp only [Value.slice.injEq] at hv
        obtain ⟨rfl, -, rfl⟩ := hv
        clear hx1 hkk hd g0 g1 HK
        have hki : (k : Int) < l.length := by omega
        have hm3 : 0 ≤ m := by omega
        generalize hr : dk ks (m - 1) = r at *
        have HR := Lib.hid hr
        clear hr
        cases r
        · go_wp2_with (go_at_call 26; refine (hcall.out _ _ HKK.out).mono ?_; rintro e w1 ⟨rfl, he1⟩)
          go_roundw
          case rel => exact ⟨k + 1, by omega, by go_num, by rw [HE.out, HNO.out]; simp; omega, hx.trans he1⟩
          case measure => simp [intOf]; omega
        · go_wp2_with (go_at_call 26; refine (hcall.out _ _ HKK.out).mono ?_; rintro e w1 ⟨rfl, he1⟩)
          go_ret
          refine ⟨ret_bool ?_, hx.trans he1⟩
          have : (l.any fun x => decide (m < 0) || dk x.2.2 (m - 1)) = true := List.any_eq_true.2 ⟨l[k], List.getElem_mem hlt, by simp [HX.out, HR.out]⟩
          exact this.symm
    · go_wp2
      go_ret
      refine ⟨ret_bool ?_, hx⟩
      have := HNO.out
      rw [take_all l k (by omega)] at this
      exact this.symm
theorem deep_any : ∀ (n : Nat) (V : Nat → Prop) (l : List (Nd n)) (m : Int) (v : Value) (w : World), (RkN n).rk V w v l → -1 ≤ m → m ≤ 100 →
    Calls Try.prog 26 #[v, .int .i64 m] w fun e w' => e = .returned (.bool (deepN n l m)) ∧ Ext w w'
  | 0, V, l, m, v, w, h, h1, h2 => by
    have hl := nd_zero l
    subst hl
    exact deep_step (α := Empty) emptyRk V (fun _ _ => false) [] m v w (rkn_zero h) h1 h2 (fun _ x hx => by cases hx)
  | n + 1, V, l, m, v, w, h, h1, h2 => deep_step (RkN n) V (deepN n) l m v w h h1 h2 (fun h0 x hx w1 kv hkv => deep_any n V x.2.2 (m - 1) kv w1 hkv (by omega) (by omega))

def largeN (n : Nat) (l : List (Nd n)) : Bool := deepN n l 12 || decide (5000 < cntN n l)
theorem large_any (n : Nat) (V : Nat → Prop) (l : List (Nd n)) (v : Value) (w : World) (h : (RkN n).rk V w v l) (hb : cntN n l ≤ 1000000000) :
    Calls Try.prog 14 #[v] w fun e w' => e = .returned (.bool (largeN n l)) ∧ Ext w w' := by
  have HH := Lib.hid h
  have HL := Lib.hid (show largeN n l = (deepN n l 12 || decide (5000 < cntN n l)) from rfl)
  have HD := Lib.hid (fun w1 (hx : Ext w w1) => deep_any n V l 12 v w1 ((RkN n).ext h hx) (by omega) (by omega))
  have HC := Lib.hid (fun w1 (hx : Ext w w1) => count_any n V l v w1 ((RkN n).ext h hx) hb)
  generalize deepN n l 12 = b at *
  generalize cntN n l = c at *
  clear h
  cases b
  · go_enter Try.func14, Try.ntmps14
    go_wp2_with (first | (go_at_call 26; refine (HD.out _ (Ext.refl _)).mono ?_; rintro e w1 ⟨rfl, he1⟩) | (go_at_call 27; refine (HC.out _ he1).mono ?_; rintro e w2 ⟨rfl, he2⟩))
    go_ret
    exact ⟨ret_bool (by rw [HL.out]; simp; omega), he1.trans he2⟩
  · go_enter Try.func14, Try.ntmps14
    go_wp2_with (first | (go_at_call 26; refine (HD.out _ (Ext.refl _)).mono ?_; rintro e w1 ⟨rfl, he1⟩) | (go_at_call 27; refine (HC.out _ he1).mono ?_; rintro e w2 ⟨rfl, he2⟩))
    go_ret
    exact ⟨ret_bool (by rw [HL.out]; simp), he1⟩
end Go.Proofs.Ytojiddkaeoifcaa
