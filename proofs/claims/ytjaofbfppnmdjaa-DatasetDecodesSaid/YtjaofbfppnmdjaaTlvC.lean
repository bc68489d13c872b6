/- Contracts of check and size of the reference and of measure of the program: layer 10. -/
import Derived.Test.YtjaofbfppnmdjaaTlvTo
namespace Go.Proofs.Ytjaofbfppnmdjaa
open Go.RowKit
attribute [local go_sem ↓] Go.wp_at_zero Go.wp_at_succ

/-! ### What they compute -/
/-- The error of one node at depth d. -/
def errS {α : Type} (ek : List α → Int → Int) (d : Int) (x : NodeOf α) : Int :=
  if tagB x.1 = false then 15 else if 6 < d then 17 else if (nestB x.1 = true ∧ 0 < x.2.1.length) ∨ (nestB x.1 = false ∧ 0 < x.2.2.length) then 12 else ek x.2.2 (d + 1)
def chkS {α : Type} (ek : List α → Int → Int) (l : List (NodeOf α)) (d : Int) : Int := fstErr (l.map (errS ek d))
def chkN : (n : Nat) → List (Nd n) → Int → Int
  | 0, _, _ => 0
  | n + 1, l, d => chkS (chkN n) l d
def szE {α : Type} (zk : List α → Nat) (x : NodeOf α) : Nat := 1 + (lenB (x.2.1.length + zk x.2.2)).length + (x.2.1.length + zk x.2.2)
def szS {α : Type} (zk : List α → Nat) (l : List (NodeOf α)) : Nat := (l.map (szE zk)).sum
def szN : (n : Nat) → List (Nd n) → Nat
  | 0, _ => 0
  | n + 1, l => szS (szN n) l
theorem chkN_nil : ∀ (n : Nat) (d : Int), chkN n [] d = 0
  | 0, _ => rfl
  | _ + 1, _ => rfl
theorem szN_nil : ∀ (n : Nat), szN n [] = 0
  | 0 => rfl
  | _ + 1 => rfl
theorem szS_le {α : Type} (zk ck : List α → Nat) (l : List (NodeOf α)) (h : ∀ x ∈ l, zk x.2.2 ≤ 4 * ck x.2.2) : szS zk l ≤ 4 * cntS ck l := by
  unfold szS cntS
  induction l with
  | nil => simp
  | cons x l ih =>
    have h1 := ih fun y hy => h y (by simp [hy])
    have h2 := h x (by simp)
    have h3 := lenB_le (x.2.1.length + zk x.2.2)
    simp only [List.map_cons, List.sum_cons, List.length_cons, szE] at *
    omega
theorem szN_le : ∀ (n : Nat) (l : List (Nd n)), szN n l ≤ 4 * cntN n l
  | 0, _ => by simp [szN]
  | n + 1, l => szS_le (szN n) (cntN n) l fun x _ => szN_le n x.2.2

/-! ### size of the reference -/
set_option maxRecDepth 100000 in
set_option maxHeartbeats 400000 in
theorem size10_step {α : Type} (R : Rk α) (V : Nat → Prop) (zk : List α → Nat) (l : List (NodeOf α)) (v : Value) (w : World) (h : (nodesRk R).rk V w v l)
    (hk : ∀ x ∈ l, ∀ w1 kv, R.rk V w1 kv x.2.2 → Calls Try.prog 70 #[kv] w1 fun e w' => e = .returned (.int .i64 (zk x.2.2)) ∧ Ext w1 w')
    (hb : szS zk l ≤ 4000000000) (hll : l.length ≤ 1000000000) : Calls Try.prog 70 #[v] w fun e w' => e = .returned (.int .i64 (szS zk l)) ∧ Ext w w' := by
  obtain ⟨a, c, rfl, hc1, hc2⟩ := (nodesRk R).form h
  have HB := Lib.hid hb
  have HH := Lib.hid h
  have HK := Lib.hid hk
  clear hb h hk hc2
  go_enter Try.func70, Try.ntmps70
  go_wp2
  go_loopw [3, 4] (fun s i wr => ∃ (k : Nat), k ≤ l.length ∧ i = .int .i64 k ∧ s = .int .i64 ((szS zk (l.take k) : Nat) : Int) ∧ Ext w wr) (fun _ i _ => l.length - (intOf i).toNat)
  case atStart => exact ⟨0, Nat.zero_le _, rfl, by simp [szS], Ext.refl _⟩
  case round =>
    obtain ⟨k, hk1, rfl, rfl, hx⟩ := hrel
    by_cases hlt : k < l.length
    · obtain ⟨b, off, c', da, dc, ka, kc, hv, hcap, _, g0, g1, g2, hd, hkk⟩ := node_at ((nodesRk R).ext HH.out hx) hlt
      have hcall := Lib.hid (HK.out l[k] (List.getElem_mem hlt))
      have hsum : szS zk (l.take (k + 1)) = szS zk (l.take k) + szE zk l[k] := sum_take_succ (szE zk) l k hlt
      have hle : szS zk (l.take (k + 1)) ≤ szS zk l := sum_take_le (szE zk) l (k + 1)
      have hbb := HB.out
      generalize hS : szS zk (l.take k) = S at *
      generalize hS' : szS zk (l.take (k + 1)) = S' at *
      generalize hx1 : l[k] = x at *
      obtain ⟨t, d, ks⟩ := x
      simp only [szE] at *
      generalize hz : zk ks = z at *
      have b1 : S + (1 + (lenB (d.length + z)).length + (d.length + z)) ≤ 4000000000 := by omega
      have HZ := Lib.hid hz
      have HS := Lib.hid hsum
      have HS2 := Lib.hid hS'
      have HKK := Lib.hid hkk
      simp only [Value.slice.injEq] at hv
      obtain ⟨rfl, -, rfl⟩ := hv
      clear hsum hS hS' hx1 hkk hle hbb HB HK hd g0 hz
      have hki : (k : Int) < l.length := by omega
      go_wp2
      go_region_held3 (fun w' => w'.cell? ⟨b, off + k * 3 + 1, none⟩ = some (.slice da d.length dc) ∧ w'.cell? ⟨b, off + k * 3 + 2, none⟩ = some (.slice ka ks.length kc))
        (first | exact ⟨g1, g2⟩ | exact ⟨he1.cell (by exact g1), he1.cell (by exact g2)⟩)
        (first | (go_at_call 70; refine (hcall.out _ _ (R.ext HKK.out (Ext.refl _).drew)).mono ?_; rintro e w1 ⟨rfl, he1⟩))
      rw [wrap_nat d.length z (by omega)]
      have hx2 := hx.trans ((Ext.refl _).drew.trans he1)
      clear hcall HKK he1 g1 g2
      generalize hm : d.length + z = m at *
      have HM := Lib.hid hm
      clear hm
      go_wp2_with (go_at_call 88; refine (lengthR_any m _).mono ?_; rintro e w2 ⟨a2, c2, rfl, he2, -⟩)
      go_roundw
      case rel => exact ⟨k + 1, by omega, by go_num, by rw [HS2.out, HS.out]; exact val_int (by omega), hx2.trans he2⟩
      case measure => simp [intOf]; omega
    · go_wp2
      go_ret
      exact ⟨ret_int (by rw [take_all l k (by omega)]), hx⟩
theorem size10_any : ∀ (n : Nat) (V : Nat → Prop) (l : List (Nd n)) (v : Value) (w : World), (RkN n).rk V w v l → cntN n l ≤ 1000000000 →
    Calls Try.prog 70 #[v] w fun e w' => e = .returned (.int .i64 (szN n l)) ∧ Ext w w'
  | 0, V, l, v, w, h, _ => by
    have hl := nd_zero l
    subst hl
    exact size10_step (α := Empty) emptyRk V (fun _ => 0) [] v w (rkn_zero h) (fun x hx => by cases hx) (by simp [szS]) (by simp)
  | n + 1, V, l, v, w, h, hb => size10_step (RkN n) V (szN n) l v w h (fun x hx w1 kv hkv => size10_any n V x.2.2 kv w1 hkv (by
      have h1 : cntS (cntN n) l ≤ 1000000000 := hb
      have h2 := sum_mem_le (fun x : NodeOf (Nd n) => x.2.1.length + cntN n x.2.2) l x hx
      unfold cntS at h1
      omega)) (by have := szN_le (n + 1) l; show szN (n + 1) l ≤ _; omega) (by
      have h1 : cntS (cntN n) l ≤ 1000000000 := hb
      unfold cntS at h1
      omega)

/-! ### check of the reference -/
set_option maxRecDepth 100000 in
set_option maxHeartbeats 4000000 in
theorem check10_step {α : Type} (R : Rk α) (V : Nat → Prop) (ek : List α → Int → Int) (l : List (NodeOf α)) (d : Int) (v : Value) (w : World) (h : (nodesRk R).rk V w v l) (hd0 : 0 ≤ d) (hd1 : d ≤ 7)
    (hk : d ≤ 6 → ∀ x ∈ l, ∀ w1 kv, R.rk V w1 kv x.2.2 → Calls Try.prog 69 #[kv, .int .i64 (d + 1)] w1 fun e w' => e = .returned (.int .i64 (ek x.2.2 (d + 1))) ∧ Ext w1 w') :
    Calls Try.prog 69 #[v, .int .i64 d] w fun e w' => e = .returned (.int .i64 (chkS ek l d)) ∧ Ext w w' := by
  obtain ⟨a, c, rfl, hc1, hc2⟩ := (nodesRk R).form h
  have HH := Lib.hid h
  have HK := Lib.hid hk
  have hmax : l.length ≤ 9223372036854775807 := by unfold maxLen at hc2; omega
  clear h hk hc2
  go_enter Try.func69, Try.ntmps69
  go_wp2
  go_loopw [5] (fun i wr => ∃ (k : Nat), k ≤ l.length ∧ i = .int .i64 k ∧ chkS ek (l.take k) d = 0 ∧ Ext w wr) (fun i _ => l.length - (intOf i).toNat)
  case atStart => exact ⟨0, Nat.zero_le _, rfl, rfl, Ext.refl _⟩
  case round =>
    obtain ⟨k, hk1, rfl, hno, hx⟩ := hrel
    have HNO := Lib.hid hno
    clear hno
    by_cases hlt : k < l.length
    · have HE := Lib.hid (show chkS ek (l.take (k + 1)) d = errS ek d l[k] from fstErr_take_succ (errS ek d) l k hlt HNO.out)
      have HF := Lib.hid (show chkS ek (l.take (k + 1)) d ≠ 0 → chkS ek l d = chkS ek (l.take (k + 1)) d from fstErr_of_take (errS ek d) l (k + 1))
      obtain ⟨b, off, c', da, dc, ka, kc, hv, hcap, _, g0, g1, g2, hdd, hkk⟩ := node_at ((nodesRk R).ext HH.out hx) hlt
      have HKK := Lib.hid (fun h => HK.out h l[k] (List.getElem_mem hlt))
      generalize hx1 : l[k] = x at *
      obtain ⟨t, dt, ks⟩ := x
      simp only at *
      have HRK := Lib.hid hkk
      simp only [Value.slice.injEq] at hv
      obtain ⟨rfl, -, rfl⟩ := hv
      have ht := Lib.hid (fun w1 => tagR_any t w1)
      have hn := Lib.hid (fun w1 => nestedR_any t w1)
      have HX := Lib.hid (show errS ek d (t, dt, ks) = if tagB t = false then 15 else if 6 < d then 17 else if (nestB t = true ∧ 0 < dt.length) ∨ (nestB t = false ∧ 0 < ks.length) then 12 else ek ks (d + 1) from rfl)
      clear hx1 hkk hdd HK
      generalize errS ek d (t, dt, ks) = E at *
      generalize hE' : chkS ek (l.take (k + 1)) d = E' at *
      have HE' := Lib.hid hE'
      clear hE'
      generalize hnk : ks.length = nk at *
      generalize hnd : dt.length = nd at *
      have HNK := Lib.hid hnk
      have HND := Lib.hid hnd
      clear hnk hnd
      generalize tagB t = tb at *
      generalize nestB t = nb at *
      generalize ek ks (d + 1) = ee at *
      have hki : (k : Int) < l.length := by omega
      cases tb
      · go_wp2_with (go_at_call 86; refine (ht.out _).mono ?_; rintro e w1 ⟨rfl, rfl⟩)
        go_ret
        exact ⟨ret_int (by have h1 := HX.out; have h2 := HE.out; simp at h1; rw [HF.out (by omega)]; omega), hx⟩
      by_cases hd6 : 6 < d
      · go_wp2_with (go_at_call 86; refine (ht.out _).mono ?_; rintro e w1 ⟨rfl, rfl⟩)
        go_ret
        exact ⟨ret_int (by have h1 := HX.out; have h2 := HE.out; simp [hd6] at h1; rw [HF.out (by omega)]; omega), hx⟩
      have hcall := Lib.hid (HKK.out (by omega))
      clear HKK
      cases nb
      · by_cases hk0 : nk = 0
        · subst hk0
          by_cases he0 : ee = 0
          · have HE0 := Lib.hid he0
            have he1 : (ee != 0) = false := by simp [he0]
            clear he0
            go_wp2_with (first | (go_at_call 86; refine (ht.out _).mono ?_; rintro e w1 ⟨rfl, rfl⟩) | (go_at_call 87; refine (hn.out _).mono ?_; rintro e w1 ⟨rfl, rfl⟩) | (go_at_call 69; refine (hcall.out _ _ HRK.out).mono ?_; rintro e w1 ⟨rfl, hx1⟩))
            go_roundw
            case rel => exact ⟨k + 1, by omega, by go_num, by have h1 := HX.out; have h2 := HE.out; simp [show ¬ 6 < d by omega] at h1; rw [HE'.out, h2, h1, HE0.out], hx.trans hx1⟩
            case measure => simp [intOf]; omega
          · have he1 : (ee != 0) = true := by simp [he0]
            go_wp2_with (first | (go_at_call 86; refine (ht.out _).mono ?_; rintro e w1 ⟨rfl, rfl⟩) | (go_at_call 87; refine (hn.out _).mono ?_; rintro e w1 ⟨rfl, rfl⟩) | (go_at_call 69; refine (hcall.out _ _ HRK.out).mono ?_; rintro e w1 ⟨rfl, hx1⟩))
            go_ret
            exact ⟨ret_int (by have h1 := HX.out; have h2 := HE.out; simp [show ¬ 6 < d by omega] at h1; rw [HF.out (by omega)]; omega), hx.trans hx1⟩
        · have hkz : (0 : Int) < nk := by omega
          go_wp2_with (first | (go_at_call 86; refine (ht.out _).mono ?_; rintro e w1 ⟨rfl, rfl⟩) | (go_at_call 87; refine (hn.out _).mono ?_; rintro e w1 ⟨rfl, rfl⟩))
          go_ret
          exact ⟨ret_int (by have h1 := HX.out; have h2 := HE.out; simp [show ¬ 6 < d by omega, show 0 < nk by omega] at h1; rw [HF.out (by omega)]; omega), hx⟩
      · by_cases hk0 : nd = 0
        · subst hk0
          by_cases he0 : ee = 0
          · have HE0 := Lib.hid he0
            have he1 : (ee != 0) = false := by simp [he0]
            clear he0
            go_wp2_with (first | (go_at_call 86; refine (ht.out _).mono ?_; rintro e w1 ⟨rfl, rfl⟩) | (go_at_call 87; refine (hn.out _).mono ?_; rintro e w1 ⟨rfl, rfl⟩) | (go_at_call 69; refine (hcall.out _ _ HRK.out).mono ?_; rintro e w1 ⟨rfl, hx1⟩))
            go_roundw
            case rel => exact ⟨k + 1, by omega, by go_num, by have h1 := HX.out; have h2 := HE.out; simp [show ¬ 6 < d by omega] at h1; rw [HE'.out, h2, h1, HE0.out], hx.trans hx1⟩
            case measure => simp [intOf]; omega
          · have he1 : (ee != 0) = true := by simp [he0]
            go_wp2_with (first | (go_at_call 86; refine (ht.out _).mono ?_; rintro e w1 ⟨rfl, rfl⟩) | (go_at_call 87; refine (hn.out _).mono ?_; rintro e w1 ⟨rfl, rfl⟩) | (go_at_call 69; refine (hcall.out _ _ HRK.out).mono ?_; rintro e w1 ⟨rfl, hx1⟩))
            go_ret
            exact ⟨ret_int (by have h1 := HX.out; have h2 := HE.out; simp [show ¬ 6 < d by omega] at h1; rw [HF.out (by omega)]; omega), hx.trans hx1⟩
        · have hkz : (0 : Int) < nd := by omega
          go_wp2_with (first | (go_at_call 86; refine (ht.out _).mono ?_; rintro e w1 ⟨rfl, rfl⟩) | (go_at_call 87; refine (hn.out _).mono ?_; rintro e w1 ⟨rfl, rfl⟩))
          go_ret
          exact ⟨ret_int (by have h1 := HX.out; have h2 := HE.out; simp [show ¬ 6 < d by omega, show 0 < nd by omega] at h1; rw [HF.out (by omega)]; omega), hx⟩
    · go_wp2
      go_ret
      exact ⟨ret_int (by have := HNO.out; rw [take_all l k (by omega)] at this; exact this.symm), hx⟩
theorem check10_any : ∀ (n : Nat) (V : Nat → Prop) (l : List (Nd n)) (d : Int) (v : Value) (w : World), (RkN n).rk V w v l → 0 ≤ d → d ≤ 7 →
    Calls Try.prog 69 #[v, .int .i64 d] w fun e w' => e = .returned (.int .i64 (chkN n l d)) ∧ Ext w w'
  | 0, V, l, d, v, w, h, h1, h2 => by
    have hl := nd_zero l
    subst hl
    exact check10_step (α := Empty) emptyRk V (fun _ _ => 0) [] d v w (rkn_zero h) h1 h2 (fun _ x hx => by cases hx)
  | n + 1, V, l, d, v, w, h, h1, h2 => check10_step (RkN n) V (chkN n) l d v w h h1 h2 (fun h6 x hx w1 kv hkv => check10_any n V x.2.2 (d + 1) kv w1 hkv (by omega) (by omega))
end Go.Proofs.Ytjaofbfppnmdjaa
