/- The contract of measure of the program: layer 10. -/
import Derived.Test.YtjaofbfppnmdjaaTlvC
namespace Go.Proofs.Ytjaofbfppnmdjaa
open Go.RowKit
attribute [local go_sem ↓] Go.wp_at_zero Go.wp_at_succ

/-- A number and an error: the number is 0 if there is an error. -/
def numErr (n : Nat) (e : Int) : Value := .tuple #[.int .i64 (if e = 0 then (n : Int) else 0), .int .i64 e]

set_option maxRecDepth 100000 in
set_option maxHeartbeats 4000000 in
theorem measure_step {α : Type} (R : Rk α) (V : Nat → Prop) (ek : List α → Int → Int) (zk : List α → Nat) (l : List (NodeOf α)) (d : Int) (v : Value) (w : World) (h : (nodesRk R).rk V w v l) (hd0 : 0 ≤ d) (hd1 : d ≤ 7)
    (hek : ∀ d, ek [] d = 0) (hzk : zk [] = 0) (hb : szS zk l ≤ 4000000000) (hll : l.length ≤ 1000000000)
    (hk : d ≤ 6 → ∀ x ∈ l, ∀ w1 kv, R.rk V w1 kv x.2.2 → Calls Try.prog 67 #[kv, .int .i64 (d + 1)] w1 fun e w' => e = .returned (numErr (zk x.2.2) (ek x.2.2 (d + 1))) ∧ Ext w1 w') :
    Calls Try.prog 67 #[v, .int .i64 d] w fun e w' => e = .returned (numErr (szS zk l) (chkS ek l d)) ∧ Ext w w' := by
  obtain ⟨a, c, rfl, hc1, hc2⟩ := (nodesRk R).form h
  have HH := Lib.hid h
  have HK := Lib.hid hk
  have HB := Lib.hid hb
  have HEK := Lib.hid hek
  have HZK := Lib.hid hzk
  clear h hk hc2 hb hek hzk
  go_enter Try.func67, Try.ntmps67
  go_wp2
  go_loopw [6, 14] (fun s i wr => ∃ (k : Nat), k ≤ l.length ∧ i = .int .i64 k ∧ s = .int .i64 ((szS zk (l.take k) : Nat) : Int) ∧ chkS ek (l.take k) d = 0 ∧ Ext w wr) (fun _ i _ => l.length - (intOf i).toNat)
  case atStart => exact ⟨0, Nat.zero_le _, rfl, by simp [szS], rfl, Ext.refl _⟩
  case round =>
    obtain ⟨k, hk1, rfl, rfl, hno, hx⟩ := hrel
    have HNO := Lib.hid hno
    clear hno
    by_cases hlt : k < l.length
    · have HE := Lib.hid (show chkS ek (l.take (k + 1)) d = errS ek d l[k] from fstErr_take_succ (errS ek d) l k hlt HNO.out)
      have HF := Lib.hid (show chkS ek (l.take (k + 1)) d ≠ 0 → chkS ek l d = chkS ek (l.take (k + 1)) d from fstErr_of_take (errS ek d) l (k + 1))
      have hsum : szS zk (l.take (k + 1)) = szS zk (l.take k) + szE zk l[k] := sum_take_succ (szE zk) l k hlt
      have hle : szS zk (l.take (k + 1)) ≤ szS zk l := sum_take_le (szE zk) l (k + 1)
      have hbb := HB.out
      obtain ⟨b, off, c', da, dc, ka, kc, hv, hcap, _, g0, g1, g2, hdd, hkk⟩ := node_at ((nodesRk R).ext HH.out hx) hlt
      have HKK := Lib.hid (fun h => HK.out h l[k] (List.getElem_mem hlt))
      generalize hS : szS zk (l.take k) = S at *
      generalize hS' : szS zk (l.take (k + 1)) = S' at *
      generalize hx1 : l[k] = x at *
      obtain ⟨t, dt, ks⟩ := x
      simp only [szE] at *
      have HRK := Lib.hid hkk
      simp only [Value.slice.injEq] at hv
      obtain ⟨rfl, -, rfl⟩ := hv
      have ht := Lib.hid (fun w1 => isTag_any t w1)
      have hn := Lib.hid (fun w1 => nestedP_any t w1)
      have HX := Lib.hid (show errS ek d (t, dt, ks) = if tagB t = false then 15 else if 6 < d then 17 else if (nestB t = true ∧ 0 < dt.length) ∨ (nestB t = false ∧ 0 < ks.length) then 12 else ek ks (d + 1) from rfl)
      have b1 : S + (1 + (lenB (dt.length + zk ks)).length + (dt.length + zk ks)) ≤ 4000000000 := by omega
      have HS := Lib.hid hsum
      have HS2 := Lib.hid hS'
      have HZ0 : Hid (ks.length = 0 → zk ks = 0 ∧ ek ks (d + 1) = 0) := fun h0 => by
        have : ks = [] := List.eq_nil_of_length_eq_zero h0
        subst this
        exact ⟨HZK.out, HEK.out _⟩
      clear hx1 hkk hdd HK hsum hS hS' hle hbb HB HZK HEK
      generalize errS ek d (t, dt, ks) = E at *
      generalize hE' : chkS ek (l.take (k + 1)) d = E' at *
      have HE' := Lib.hid hE'
      clear hE'
      generalize hnk : ks.length = nk at *
      generalize hnd : dt.length = nd at *
      have HNK := Lib.hid hnk
      have HND := Lib.hid hnd
      clear hnk hnd
      generalize tagB t = tb at *
      generalize nestB t = nb at *
      generalize ek ks (d + 1) = ee at *
      generalize zk ks = z at *
      have hki : (k : Int) < l.length := by omega
      cases tb
      · cases nb <;>
        · go_wp2_with (first | (go_at_call 81; refine (ht.out _).mono ?_; rintro e w1 ⟨rfl, rfl⟩) | (go_at_call 83; refine (hn.out _).mono ?_; rintro e w1 ⟨rfl, rfl⟩))
          go_ret2
          exact ⟨by have h1 := HX.out; have h2 := HE.out; simp at h1; rw [HF.out (by omega), h2, h1]; rfl, hx.alloc _⟩
      by_cases hd6 : 6 < d
      · cases nb <;>
        · go_wp2_with (first | (go_at_call 81; refine (ht.out _).mono ?_; rintro e w1 ⟨rfl, rfl⟩) | (go_at_call 83; refine (hn.out _).mono ?_; rintro e w1 ⟨rfl, rfl⟩))
          go_ret2
          exact ⟨by have h1 := HX.out; have h2 := HE.out; simp [hd6] at h1; rw [HF.out (by omega), h2, h1]; rfl, hx.alloc _⟩
      have hcall := Lib.hid (HKK.out (by omega))
      clear HKK
      cases nb
      · by_cases hk0 : nk = 0
        · subst hk0
          obtain ⟨hz0, he0⟩ := HZ0.out rfl
          subst hz0 he0
          clear hcall HZ0
          simp only [Nat.add_zero] at b1
          go_wp2_with (first | (go_at_call 81; refine (ht.out _).mono ?_; rintro e w1 ⟨rfl, rfl⟩) | (go_at_call 83; refine (hn.out _).mono ?_; rintro e w1 ⟨rfl, rfl⟩) | (go_at_call 85; refine (lengthBytes_any _ _).mono ?_; rintro e w2 ⟨a2, c2, rfl, he2, -⟩))
          go_roundw
          case rel => exact ⟨k + 1, by omega, by go_num, by rw [HS2.out, HS.out]; exact val_int (by simp only [Nat.add_zero]; omega), by have h1 := HX.out; have h2 := HE.out; simp [show ¬ 6 < d by omega] at h1; rw [HE'.out, h2, h1], (hx.alloc _).trans he2⟩
          case measure => simp [intOf]; omega
        · have hkz : (0 : Int) < nk := by omega
          go_wp2_with (first | (go_at_call 81; refine (ht.out _).mono ?_; rintro e w1 ⟨rfl, rfl⟩) | (go_at_call 83; refine (hn.out _).mono ?_; rintro e w1 ⟨rfl, rfl⟩))
          go_ret2
          exact ⟨by have h1 := HX.out; have h2 := HE.out; simp [show ¬ 6 < d by omega, show 0 < nk by omega] at h1; rw [HF.out (by omega), h2, h1]; rfl, hx.alloc _⟩
      · by_cases hk0 : nd = 0
        · subst hk0
          simp only [Nat.zero_add] at b1
          by_cases he0 : ee = 0
          · subst he0
            have HN : Hid (numErr z 0 = .tuple #[.int .i64 (z : Int), .int .i64 0]) := rfl
            have hcall2 := Lib.hid (fun w1 kv h => HN.out ▸ hcall.out w1 kv h)
            clear hcall
            go_wp2_with (first | (go_at_call 81; refine (ht.out _).mono ?_; rintro e w1 ⟨rfl, rfl⟩) | (go_at_call 83; refine (hn.out _).mono ?_; rintro e w1 ⟨rfl, rfl⟩) | (go_at_call 67; refine (hcall2.out _ _ (R.ext HRK.out ((Ext.refl _).alloc _))).mono ?_; rintro e w1 ⟨rfl, hx1⟩) | (go_at_call 85; refine (lengthBytes_any _ _).mono ?_; rintro e w2 ⟨a2, c2, rfl, he2, -⟩))
            go_roundw
            case rel => exact ⟨k + 1, by omega, by go_num, by rw [HS2.out, HS.out]; exact val_int (by rw [Nat.zero_add]; omega), by have h1 := HX.out; have h2 := HE.out; simp [show ¬ 6 < d by omega] at h1; rw [HE'.out, h2, h1], ((hx.alloc _).trans hx1).trans he2⟩
            case measure => simp [intOf]; omega
          · have he1 : (ee != 0) = true := by simp [he0]
            have HN : Hid (numErr z ee = .tuple #[.int .i64 0, .int .i64 ee]) := by show numErr z ee = _; unfold numErr; rw [if_neg he0]
            have hcall2 := Lib.hid (fun w1 kv h => HN.out ▸ hcall.out w1 kv h)
            clear hcall
            go_wp2_with (first | (go_at_call 81; refine (ht.out _).mono ?_; rintro e w1 ⟨rfl, rfl⟩) | (go_at_call 83; refine (hn.out _).mono ?_; rintro e w1 ⟨rfl, rfl⟩) | (go_at_call 67; refine (hcall2.out _ _ (R.ext HRK.out ((Ext.refl _).alloc _))).mono ?_; rintro e w1 ⟨rfl, hx1⟩))
            go_ret2
            exact ⟨by have h1 := HX.out; have h2 := HE.out; simp [show ¬ 6 < d by omega] at h1; rw [HF.out (by omega), h2, h1]; unfold numErr; rw [if_neg he0]; rfl, (hx.alloc _).trans hx1⟩
        · have hkz : (0 : Int) < nd := by omega
          go_wp2_with (first | (go_at_call 81; refine (ht.out _).mono ?_; rintro e w1 ⟨rfl, rfl⟩) | (go_at_call 83; refine (hn.out _).mono ?_; rintro e w1 ⟨rfl, rfl⟩))
          go_ret2
          exact ⟨by have h1 := HX.out; have h2 := HE.out; simp [show ¬ 6 < d by omega, show 0 < nd by omega] at h1; rw [HF.out (by omega), h2, h1]; rfl, hx.alloc _⟩
    · go_wp2
      go_ret2
      exact ⟨by have := HNO.out; rw [take_all l k (by omega)] at this ⊢; rw [this]; rfl, hx⟩
theorem measure_any : ∀ (n : Nat) (V : Nat → Prop) (l : List (Nd n)) (d : Int) (v : Value) (w : World), (RkN n).rk V w v l → 0 ≤ d → d ≤ 7 → cntN n l ≤ 1000000000 →
    Calls Try.prog 67 #[v, .int .i64 d] w fun e w' => e = .returned (numErr (szN n l) (chkN n l d)) ∧ Ext w w'
  | 0, V, l, d, v, w, h, h1, h2, _ => by
    have hl := nd_zero l
    subst hl
    exact measure_step (α := Empty) emptyRk V (fun _ _ => 0) (fun _ => 0) [] d v w (rkn_zero h) h1 h2 (fun _ => rfl) rfl (by simp [szS]) (by simp) (fun _ x hx => by cases hx)
  | n + 1, V, l, d, v, w, h, h1, h2, hb => measure_step (RkN n) V (chkN n) (szN n) l d v w h h1 h2 (chkN_nil n) (szN_nil n) (by have := szN_le (n + 1) l; show szN (n + 1) l ≤ _; omega) (by
      have h1 : cntS (cntN n) l ≤ 1000000000 := hb
      unfold cntS at h1
      omega) (fun h6 x hx w1 kv hkv => measure_any n V x.2.2 (d + 1) kv w1 hkv (by omega) (by omega) (by
      have h1 : cntS (cntN n) l ≤ 1000000000 := hb
      have h2 := sum_mem_le (fun x : NodeOf (Nd n) => x.2.1.length + cntN n x.2.2) l x hx
      unfold cntS at h1
      omega))
end Go.Proofs.Ytjaofbfppnmdjaa
