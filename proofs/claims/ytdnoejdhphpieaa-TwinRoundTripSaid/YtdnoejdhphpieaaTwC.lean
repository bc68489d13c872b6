/- within, Same and known of layer 16. -/
import Derived.Test.YtdnoejdhphpieaaTwB
import Derived.Laws.StructEq
namespace Go.Proofs.Ytdnoejdhphpieaa
open Go.RowKit
attribute [local go_sem ↓] Go.wp_at_zero Go.wp_at_succ

theorem eql_src (x y : Src3) (w : World) : (binOp .eql 36 (.agg #[.int .i64 x.1, .int .i64 x.2.1, .int .u64 ((x.2.2 : Nat) : Int)]) (.agg #[.int .i64 y.1, .int .i64 y.2.1, .int .u64 ((y.2.2 : Nat) : Int)])).run Try.prog w = .ok (.bool (decide (x = y))) w := by
  have hS : Try.prog.underlying 36 = some (.struct (Try.prog.fieldsOf 36)) := by kernel_rfl
  have hp : Try.prog.stoodInHeld 36 = false := by kernel_rfl
  rw [run_eql_struct, show (10000 : Nat) = 9999 + 1 from rfl, run_equalIn_agg w 9999 36 _ _ hS hp]
  simp only [Program.fieldsOf, Try.underlying36]
  go_simp
  obtain ⟨a, b, c⟩ := x
  obtain ⟨d, e, f⟩ := y
  simp only [Prod.mk.injEq]
  by_cases h1 : a = d <;> by_cases h2 : b = e <;> by_cases h3 : (c : Int) = (f : Int) <;> simp [h1, h2, h3] <;> omega
theorem sameT1_any (x y : Src3) (w : World) : Calls Try.prog 31 #[.agg #[.int .i64 x.1, .int .i64 x.2.1, .int .u64 ((x.2.2 : Nat) : Int)], .agg #[.int .i64 y.1, .int .i64 y.2.1, .int .u64 ((y.2.2 : Nat) : Int)]] w fun e w' => e = .returned (.bool (decide (x = y))) ∧ Ext w w' := by
  have he := fun w1 => eql_src x y w1
  generalize decide (x = y) = r at *
  obtain ⟨a, b, c⟩ := x
  obtain ⟨d, e, f⟩ := y
  simp only at *
  go_enter Try.func31, Try.ntmps31
  go_wp2
  go_ret
  exact ⟨rfl, ((Ext.refl _).alloc _).alloc _⟩
set_option maxHeartbeats 1000000 in
theorem eqfSrc_any (a b : List Src3) (va vb : Value) (w : World) (ha : RF Any 3 srcE w va a) (hb : RF Any 3 srcE w vb b) :
    Calls Try.prog 30 #[va, vb, .func (.func 31) #[] #[]] w fun e w' => e = .returned (.bool (decide (a = b))) ∧ Ext w w' := by
  obtain ⟨aa, ac, rfl, hc1, hc2⟩ := ha.form
  obtain ⟨ba, bc, rfl, hc3, hc4⟩ := hb.form
  have hmax : a.length ≤ 9223372036854775807 := by unfold maxLen at hc2; omega
  have HA := Lib.hid ha
  have HB := Lib.hid hb
  have HQ := Lib.hid (list_eq_of a b)
  have HNE := Lib.hid (list_ne_at a b)
  clear ha hb hc1 hc2 hc3 hc4
  generalize hna : a.length = na at *
  generalize hnb : b.length = nb at *
  have HNA := Lib.hid hna
  have HNB := Lib.hid hnb
  clear hna hnb
  by_cases hl : na = nb
  · subst hl
    go_enter Try.func30, Try.ntmps30
    go_wp2
    go_loopw [17] (fun i wr => ∃ (k : Nat), k ≤ na ∧ i = .int .i64 k ∧ (∀ (i : Nat) x y, a[i]? = some x → b[i]? = some y → i < k → x = y) ∧ Ext w wr) (fun i _ => na - (intOf i).toNat)
    case atStart => exact ⟨0, Nat.zero_le _, rfl, fun i _ _ _ _ h => by omega, Ext.refl _⟩
    case round =>
      obtain ⟨k, hk1, rfl, hall, hx⟩ := hrel
      have HALL := Lib.hid hall
      clear hall
      by_cases hlt : k < na
      · obtain ⟨x, hxk⟩ : ∃ x, a[k]? = some x := ⟨_, List.getElem?_eq_getElem (by rw [HNA.out]; exact hlt)⟩
        obtain ⟨y, hyk⟩ : ∃ y, b[k]? = some y := ⟨_, List.getElem?_eq_getElem (by rw [HNB.out]; exact hlt)⟩
        obtain ⟨b1, o1, c1, hv1, g0, g1, g2⟩ := src_get (HA.out.ext hx) hxk
        obtain ⟨b2, o2, c2, hv2, f0, f1, f2⟩ := src_get (HB.out.ext hx) hyk
        rw [HNA.out] at hv1
        rw [HNB.out] at hv2
        simp only [Value.slice.injEq] at hv1 hv2
        obtain ⟨rfl, -, rfl⟩ := hv1
        obtain ⟨rfl, -, rfl⟩ := hv2
        have HC := Lib.hid (fun w1 => sameT1_any x y w1)
        obtain ⟨r, hr⟩ : ∃ r, decide (x = y) = r := ⟨_, rfl⟩
        rw [hr] at HC
        have HR := Lib.hid hr
        have HXK := Lib.hid hxk
        have HYK := Lib.hid hyk
        clear hr hxk hyk
        obtain ⟨x1, x2, x3⟩ := x
        obtain ⟨y1, y2, y3⟩ := y
        simp only at *
        have hki : (k : Int) < na := by omega
        have lb1 : b1 < wr.heap.size := World.block_lt_of_cell? wr _ g0
        have lb2 : b2 < wr.heap.size := World.block_lt_of_cell? wr _ f0
        cases r
        · go_wp2_with (go_at_call 31; refine (HC.out _).mono ?_; rintro e w1 ⟨rfl, hx1⟩)
          go_ret
          exact ⟨ret_bool (decide_eq_false (HNE.out k _ _ HXK.out HYK.out (of_decide_eq_false HR.out))).symm, (hx.trans (((Ext.refl _).alloc _).alloc _)).trans hx1⟩
        · go_wp2_with (go_at_call 31; refine (HC.out _).mono ?_; rintro e w1 ⟨rfl, hx1⟩)
          go_roundw
          case rel => exact ⟨k + 1, by omega, by go_num, fun i x y h1 h2 hi => by
            rcases Nat.lt_or_ge i k with h | h
            · exact HALL.out i x y h1 h2 h
            · have hik : i = k := by omega
              subst hik
              have e1 := HXK.out
              have e2 := HYK.out
              rw [h1] at e1
              rw [h2] at e2
              injection e1 with e1
              injection e2 with e2
              rw [e1, e2]
              exact of_decide_eq_true HR.out, (hx.trans (((Ext.refl _).alloc _).alloc _)).trans hx1⟩
          case measure => simp [intOf]; omega
      · go_wp2
        go_ret
        refine ⟨ret_bool (decide_eq_true ?_).symm, hx⟩
        exact HQ.out (by first | trivial | rfl) fun i x y h1 h2 => HALL.out i x y h1 h2 (by have := get_lt h1; rw [HNA.out] at this; omega)
  · have hl2 : ((na : Int) != nb) = true := by simp; omega
    go_enter Try.func30, Try.ntmps30
    go_wp2
    go_ret
    exact ⟨ret_bool (decide_eq_false (fun e => hl (by rw [← HNA.out, ← HNB.out, e]))).symm, Ext.refl _⟩
theorem sameTP_any (a b : List Src3) (va vb : Value) (w : World) (ha : RF Any 3 srcE w va a) (hb : RF Any 3 srcE w vb b) :
    Calls Try.prog 16 #[.agg #[va], .agg #[vb]] w fun e w' => e = .returned (.bool (decide (a = b))) ∧ Ext w w' := by
  have H := Lib.hid (fun w1 (h : Ext w w1) => eqfSrc_any a b va vb w1 (ha.ext h) (hb.ext h))
  obtain ⟨aa, ac, rfl, _, _⟩ := ha.form
  obtain ⟨ba, bc, rfl, _, _⟩ := hb.form
  generalize decide (a = b) = r at *
  generalize a.length = na at *
  generalize b.length = nb at *
  clear ha hb
  go_enter Try.func16, Try.ntmps16
  go_wp2_with (go_at_call 30; refine (H.out _ (((Ext.refl _).alloc _).alloc _)).mono ?_; rintro e w1 ⟨rfl, hx1⟩)
  go_ret
  exact ⟨rfl, (((Ext.refl _).alloc _).alloc _).trans hx1⟩
end Go.Proofs.Ytdnoejdhphpieaa
