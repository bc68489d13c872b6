/- Contracts of Same, of the program (through slices.EqualFunc) and of the reference: layer 10. -/
import Derived.Test.YtojiddkaeoifcaaTlvG
namespace Go.Proofs.Ytojiddkaeoifcaa
open Go.RowKit
attribute [local go_sem ↓] Go.wp_at_zero Go.wp_at_succ

/-! ### What they compute -/
def sameE {α : Type} (sk : List α → List α → Bool) (x y : NodeOf α) : Bool := decide (x.1 = y.1) && decide (x.2.1 = y.2.1) && sk x.2.2 y.2.2
def sameS {α : Type} (sk : List α → List α → Bool) : List (NodeOf α) → List (NodeOf α) → Bool
  | [], [] => true
  | x :: a, y :: b => sameE sk x y && sameS sk a b
  | _, _ => false
def sameN : (n : Nat) → List (Nd n) → List (Nd n) → Bool
  | 0, _, _ => true
  | n + 1, a, b => sameS (sameN n) a b
theorem sameS_iff {α : Type} (sk : List α → List α → Bool) : ∀ (a b : List (NodeOf α)), sameS sk a b = true ↔ a.length = b.length ∧ ∀ i (h1 : i < a.length) (h2 : i < b.length), sameE sk a[i] b[i] = true
  | [], [] => by simp [sameS]
  | [], _ :: _ => by simp [sameS]
  | _ :: _, [] => by simp [sameS]
  | x :: a, y :: b => by
    simp only [sameS, Bool.and_eq_true, sameS_iff sk a b, List.length_cons]
    constructor
    · rintro ⟨h1, h2, h3⟩
      refine ⟨by omega, fun i hi hi2 => ?_⟩
      cases i with
      | zero => exact h1
      | succ i => exact h3 i (by omega) (by omega)
    · rintro ⟨h1, h2⟩
      exact ⟨h2 0 (by omega) (by omega), by omega, fun i hi hi2 => h2 (i + 1) (by omega) (by omega)⟩
theorem sameS_len {α : Type} (sk : List α → List α → Bool) (a b : List (NodeOf α)) (h : a.length ≠ b.length) : sameS sk a b = false := by
  rw [Bool.eq_false_iff]
  exact fun hh => h ((sameS_iff sk a b).1 hh).1
theorem sameS_at {α : Type} (sk : List α → List α → Bool) (a b : List (NodeOf α)) (i : Nat) (h1 : i < a.length) (h2 : i < b.length) (h : sameE sk a[i] b[i] = false) : sameS sk a b = false := by
  rw [Bool.eq_false_iff]
  intro hh
  have := ((sameS_iff sk a b).1 hh).2 i h1 h2
  rw [h] at this
  cases this
theorem sameN_iff : ∀ (n : Nat) (a b : List (Nd n)), sameN n a b = true ↔ a = b
  | 0, a, b => by
    have h1 := nd_zero a
    have h2 := nd_zero b
    subst h1 h2
    simp [sameN]
  | n + 1, a, b => by
    refine Iff.trans (sameS_iff (sameN n) a b) ?_
    constructor
    · rintro ⟨hl, h⟩
      refine List.ext_getElem hl fun i h1 h2 => ?_
      have h3 := h i h1 h2
      simp only [sameE, Bool.and_eq_true, decide_eq_true_eq, sameN_iff n] at h3
      exact Prod.ext h3.1.1 (Prod.ext h3.1.2 h3.2)
    · rintro rfl
      exact ⟨rfl, fun i h1 _ => by simp only [sameE, Bool.and_eq_true, decide_eq_true_eq, sameN_iff n, and_self]⟩

/-! ### bytes.Equal -/
theorem bytesEqual_any (xs ys : List Int) (v1 v2 : Value) (w : World) (h1 : RB Any w v1 xs) (h2 : RB Any w v2 ys) :
    Calls Try.prog 33 #[v1, v2] w fun e w' => e = .returned (.bool (decide (xs = ys))) ∧ w = w' := by
  obtain ⟨a1, c1, rfl, _, _⟩ := h1.form
  obtain ⟨a2, c2, rfl, _, _⟩ := h2.form
  have hc1 := h1.conv (P := Try.prog) 22 9 5 Try.underlying22 Try.underlying5 Try.underlying9
  have hc2 := h2.conv (P := Try.prog) 22 9 5 Try.underlying22 Try.underlying5 Try.underlying9
  have HQ := Lib.hid (str_eq h1.byt h2.byt)
  clear h1 h2
  generalize strOfNums xs = s1 at *
  generalize strOfNums ys = s2 at *
  generalize xs.length = n1 at *
  generalize ys.length = n2 at *
  go_enter Try.func33, Try.ntmps33
  go_wp2
  go_ret
  exact ⟨ret_bool HQ.out, rfl⟩

/-! ### Same of the program -/
set_option maxHeartbeats 1000000 in
theorem same1_step {α : Type} (R : Rk α) (sk : List α → List α → Bool) (x y : NodeOf α) (d1 k1 d2 k2 : Value) (w : World) (hd1 : RB Any w d1 x.2.1) (hk1 : R.rk Any w k1 x.2.2) (hd2 : RB Any w d2 y.2.1) (hk2 : R.rk Any w k2 y.2.2)
    (hk : ∀ w1 v1 v2, R.rk Any w1 v1 x.2.2 → R.rk Any w1 v2 y.2.2 → Calls Try.prog 19 #[v1, v2] w1 fun e w' => e = .returned (.bool (sk x.2.2 y.2.2)) ∧ Ext w1 w') :
    Calls Try.prog 32 #[.agg #[.int .i64 x.1, d1, k1], .agg #[.int .i64 y.1, d2, k2]] w fun e w' => e = .returned (.bool (sameE sk x y)) ∧ Ext w w' := by
  obtain ⟨t1, b1, ks1⟩ := x
  obtain ⟨t2, b2, ks2⟩ := y
  simp only at *
  obtain ⟨da1, dc1, rfl, _, _⟩ := hd1.form
  obtain ⟨da2, dc2, rfl, _, _⟩ := hd2.form
  obtain ⟨ka1, kc1, rfl, _, _⟩ := R.form hk1
  obtain ⟨ka2, kc2, rfl, _, _⟩ := R.form hk2
  have HE := Lib.hid (fun w1 (hx : Ext w w1) => bytesEqual_any b1 b2 _ _ w1 (hd1.ext hx) (hd2.ext hx))
  have HK := Lib.hid (fun w1 (hx : Ext w w1) => hk w1 _ _ (R.ext hk1 hx) (R.ext hk2 hx))
  have HS := Lib.hid (show sameE sk (t1, b1, ks1) (t2, b2, ks2) = (decide (t1 = t2) && decide (b1 = b2) && sk ks1 ks2) from rfl)
  clear hd1 hk1 hd2 hk2 hk
  generalize sk ks1 ks2 = r at *
  generalize hq : decide (b1 = b2) = q at *
  clear hq
  generalize b1.length = n1 at *
  generalize b2.length = n2 at *
  generalize ks1.length = n3 at *
  generalize ks2.length = n4 at *
  by_cases ht : t1 = t2
  · subst ht
    cases q
    · go_enter Try.func32, Try.ntmps32
      go_wp2_with (go_at_call 33; refine (HE.out _ (((Ext.refl _).alloc _).alloc _)).mono ?_; rintro e w1 ⟨rfl, rfl⟩)
      go_ret
      exact ⟨ret_bool (by rw [HS.out]; simp), ((Ext.refl _).alloc _).alloc _⟩
    · go_enter Try.func32, Try.ntmps32
      go_wp2_with (first | (go_at_call 33; refine (HE.out _ (((Ext.refl _).alloc _).alloc _)).mono ?_; rintro e w1 ⟨rfl, rfl⟩) | (go_at_call 19; refine (HK.out _ (((Ext.refl _).alloc _).alloc _)).mono ?_; rintro e w1 ⟨rfl, hx1⟩))
      go_ret
      exact ⟨ret_bool (by rw [HS.out]; simp), (((Ext.refl _).alloc _).alloc _).trans hx1⟩
  · have ht2 : (t1 == t2) = false := by simp [ht]
    have HT := Lib.hid ht
    clear ht
    go_enter Try.func32, Try.ntmps32
    go_wp2
    go_ret
    exact ⟨ret_bool (by rw [HS.out]; simp [HT.out]), ((Ext.refl _).alloc _).alloc _⟩

set_option maxHeartbeats 1000000 in
theorem eqf_step {α : Type} (R : Rk α) (sk : List α → List α → Bool) (a b : List (NodeOf α)) (va vb : Value) (w : World) (ha : (nodesRk R).rk Any w va a) (hb : (nodesRk R).rk Any w vb b)
    (hk : ∀ x ∈ a, ∀ y ∈ b, ∀ w1 d1 k1 d2 k2, RB Any w1 d1 x.2.1 → R.rk Any w1 k1 x.2.2 → RB Any w1 d2 y.2.1 → R.rk Any w1 k2 y.2.2 →
      Calls Try.prog 32 #[.agg #[.int .i64 x.1, d1, k1], .agg #[.int .i64 y.1, d2, k2]] w1 fun e w' => e = .returned (.bool (sameE sk x y)) ∧ Ext w1 w') :
    Calls Try.prog 31 #[va, vb, .func (.func 32) #[] #[]] w fun e w' => e = .returned (.bool (sameS sk a b)) ∧ Ext w w' := by
  obtain ⟨aa, ac, rfl, hc1, hc2⟩ := (nodesRk R).form ha
  obtain ⟨ba, bc, rfl, hc3, hc4⟩ := (nodesRk R).form hb
  have hmax : a.length ≤ 9223372036854775807 := by unfold maxLen at hc2; omega
  have HA := Lib.hid ha
  have HB := Lib.hid hb
  have HK := Lib.hid hk
  clear ha hb hk hc1 hc2 hc3 hc4
  generalize hna : a.length = na at *
  generalize hnb : b.length = nb at *
  have HNA := Lib.hid hna
  have HNB := Lib.hid hnb
  clear hna hnb
  have HL := Lib.hid (sameS_len sk a b)
  have HI := Lib.hid (sameS_iff sk a b)
  have HF := Lib.hid (sameS_at sk a b)
  by_cases hl : na = nb
  · subst hl
    go_enter Try.func31, Try.ntmps31
    go_wp2
    go_loopw [17] (fun i wr => ∃ (k : Nat), k ≤ na ∧ i = .int .i64 k ∧ (∀ i (h1 : i < a.length) (h2 : i < b.length), i < k → sameE sk a[i] b[i] = true) ∧ Ext w wr) (fun i _ => na - (intOf i).toNat)
    case atStart => exact ⟨0, Nat.zero_le _, rfl, fun i _ _ h => by omega, Ext.refl _⟩
    case round =>
      obtain ⟨k, hk1, rfl, hall, hx⟩ := hrel
      have HALL := Lib.hid hall
      clear hall
      by_cases hlt : k < na
      · have hka : k < a.length := by rw [HNA.out]; exact hlt
        have hkb : k < b.length := by rw [HNB.out]; exact hlt
        obtain ⟨b1, o1, c1, da1, dc1, ka1, kc1, hv1, _, _, g0, g1, g2, hd1, hk1'⟩ := node_at ((nodesRk R).ext HA.out hx) hka
        obtain ⟨b2, o2, c2, da2, dc2, ka2, kc2, hv2, _, _, f0, f1, f2, hd2, hk2'⟩ := node_at ((nodesRk R).ext HB.out hx) hkb
        have HC := Lib.hid (fun w1 (h : Ext wr w1) => HK.out a[k] (List.getElem_mem hka) b[k] (List.getElem_mem hkb) w1 _ _ _ _ (hd1.ext h) (R.ext hk1' h) (hd2.ext h) (R.ext hk2' h))
        have HF2 := Lib.hid (HF.out k hka hkb)
        have HS : Hid (∀ i (h1 : i < a.length) (h2 : i < b.length), i < k + 1 → (i < k ∨ i = k)) := fun i _ _ h => by omega
        have HX := Lib.hid (show ∀ r, sameE sk a[k] b[k] = r → sameE sk a[k] b[k] = r from fun _ h => h)
        obtain ⟨r, hr⟩ : ∃ r, sameE sk a[k] b[k] = r := ⟨_, rfl⟩
        have HR := Lib.hid hr
        rw [hr] at HC
        rw [HNA.out] at hv1
        rw [HNB.out] at hv2
        simp only [Value.slice.injEq] at hv1 hv2
        obtain ⟨rfl, -, rfl⟩ := hv1
        obtain ⟨rfl, -, rfl⟩ := hv2
        clear hr hd1 hk1' hd2 hk2' HK HX
        generalize a[k].1 = t1 at *
        generalize b[k].1 = t2 at *
        generalize a[k].2.1.length = n1 at *
        generalize b[k].2.1.length = n2 at *
        generalize a[k].2.2.length = n3 at *
        generalize b[k].2.2.length = n4 at *
        have hki : (k : Int) < na := by omega
        have lb1 : b1 < wr.heap.size := World.block_lt_of_cell? wr _ g0
        have lb2 : b2 < wr.heap.size := World.block_lt_of_cell? wr _ f0
        cases r
        · go_wp2_with (go_at_call 32; refine (HC.out _ (((Ext.refl _).alloc _).alloc _)).mono ?_; rintro e w1 ⟨rfl, hx1⟩)
          go_ret
          exact ⟨ret_bool (HF2.out HR.out).symm, (hx.trans (((Ext.refl _).alloc _).alloc _)).trans hx1⟩
        · go_wp2_with (go_at_call 32; refine (HC.out _ (((Ext.refl _).alloc _).alloc _)).mono ?_; rintro e w1 ⟨rfl, hx1⟩)
          go_roundw
          case rel => exact ⟨k + 1, by omega, by go_num, fun i h1 h2 hi => by
            rcases HS.out i h1 h2 hi with h | h
            · exact HALL.out i h1 h2 h
            · subst h; exact HR.out, (hx.trans (((Ext.refl _).alloc _).alloc _)).trans hx1⟩
          case measure => simp [intOf]; omega
      · go_wp2
        go_ret
        refine ⟨ret_bool ?_, hx⟩
        refine (HI.out.2 ⟨by rw [HNA.out, HNB.out], fun i h1 h2 => HALL.out i h1 h2 (by have := HNA.out; omega)⟩).symm
  · have hl2 : ((na : Int) != nb) = true := by simp; omega
    go_enter Try.func31, Try.ntmps31
    go_wp2
    go_ret
    exact ⟨ret_bool (HL.out (by rw [HNA.out, HNB.out]; exact hl)).symm, Ext.refl _⟩
theorem sameP_of {α : Type} (R : Rk α) (sk : List α → List α → Bool) (a b : List (NodeOf α)) (va vb : Value) (w : World) (ha : (nodesRk R).rk Any w va a) (hb : (nodesRk R).rk Any w vb b)
    (hk : ∀ x ∈ a, ∀ y ∈ b, ∀ w1 v1 v2, R.rk Any w1 v1 x.2.2 → R.rk Any w1 v2 y.2.2 → Calls Try.prog 19 #[v1, v2] w1 fun e w' => e = .returned (.bool (sk x.2.2 y.2.2)) ∧ Ext w1 w') :
    Calls Try.prog 19 #[va, vb] w fun e w' => e = .returned (.bool (sameS sk a b)) ∧ Ext w w' := by
  have H := Lib.hid (eqf_step R sk a b va vb w ha hb (fun x hx y hy w1 d1 k1 d2 k2 h1 h2 h3 h4 => same1_step R sk x y d1 k1 d2 k2 w1 h1 h2 h3 h4 (hk x hx y hy)))
  generalize sameS sk a b = r at *
  clear ha hb hk
  go_enter Try.func19, Try.ntmps19
  go_wp2_with (go_at_call 31; refine H.out.mono ?_; rintro e w1 ⟨rfl, hx1⟩)
  go_ret
  exact ⟨rfl, hx1⟩
theorem sameP_any : ∀ (n : Nat) (a b : List (Nd n)) (va vb : Value) (w : World), (RkN n).rk Any w va a → (RkN n).rk Any w vb b →
    Calls Try.prog 19 #[va, vb] w fun e w' => e = .returned (.bool (sameN n a b)) ∧ Ext w w'
  | 0, a, b, va, vb, w, ha, hb => by
    have h1 := nd_zero a
    have h2 := nd_zero b
    subst h1 h2
    exact sameP_of (α := Empty) emptyRk (fun _ _ => true) [] [] va vb w (rkn_zero ha) (rkn_zero hb) (fun x hx => by cases hx)
  | n + 1, a, b, va, vb, w, ha, hb => sameP_of (RkN n) (sameN n) a b va vb w ha hb (fun x _ y _ w1 v1 v2 h1 h2 => sameP_any n x.2.2 y.2.2 v1 v2 w1 h1 h2)
end Go.Proofs.Ytojiddkaeoifcaa
