/- Same and copies of values: layer 11. -/
import Derived.Test.YtjaofbfppnmdjaaValB
import Derived.Deep.QuietTactic
import Derived.BigQuiet
namespace Go.Proofs.Ytjaofbfppnmdjaa
open Go.RowKit
attribute [local go_sem ↓] Go.wp_at_zero Go.wp_at_succ

/-! ### Same -/
set_option maxRecDepth 100000 in
set_option maxHeartbeats 1000000 in
theorem eqVals_any (a b : List Val) (va vb : Value) (w : World) (ha : RF Any 6 valE w va a) (hb : RF Any 6 valE w vb b) :
    Calls Try.prog 52 #[va, vb] w fun e w' => e = .returned (.bool (decide (a = b))) ∧ Ext w w' := by
  obtain ⟨aa, ac, rfl, hc1, hc2⟩ := ha.form
  obtain ⟨ba, bc, rfl, hd1, hd2⟩ := hb.form
  by_cases hl : a.length = b.length
  · have HA := Lib.hid ha
    have HB := Lib.hid hb
    have HE := Lib.hid (list_eq_of a b hl)
    have HN := Lib.hid (list_ne_at a b)
    have HL := Lib.hid hl
    clear ha hb hd1 hd2
    obtain ⟨r, hr⟩ : ∃ r, decide (a = b) = r := ⟨_, rfl⟩
    rw [hr]
    have HR := Lib.hid hr
    clear hr
    rw [← hl]
    generalize hn : a.length = n at *
    have HNN := Lib.hid hn
    unfold maxLen at hc2
    clear hn hl
    go_enter Try.func52, Try.ntmps52
    go_wp2
    go_loopw [13] (fun i wr => ∃ (k : Nat), k ≤ n ∧ i = .int .i64 k ∧ (∀ (i : Nat) x y, a[i]? = some x → b[i]? = some y → i < k → x = y) ∧ Ext w wr) (fun i _ => n - (intOf i).toNat)
    case atStart => exact ⟨0, Nat.zero_le _, rfl, fun i _ _ _ _ h => by omega, Ext.refl _⟩
    case round =>
      obtain ⟨k, hk1, rfl, hall, hx⟩ := hrel
      have HALL := Lib.hid hall
      clear hall
      by_cases hlt : k < n
      · obtain ⟨x, hxk⟩ : ∃ x, a[k]? = some x := ⟨_, List.getElem?_eq_getElem (by rw [HNN.out]; exact hlt)⟩
        obtain ⟨y, hyk⟩ : ∃ y, b[k]? = some y := ⟨_, List.getElem?_eq_getElem (by rw [← HL.out]; exact hlt)⟩
        obtain ⟨b1, o1, c1, hv1, g0, g1, g2, g3, g4, g5⟩ := val_get (HA.out.ext hx) hxk
        obtain ⟨b2, o2, c2, hv2, f0, f1, f2, f3, f4, f5⟩ := val_get (HB.out.ext hx) hyk
        rw [HNN.out] at hv1
        rw [← HL.out] at hv2
        simp only [Value.slice.injEq] at hv1 hv2
        obtain ⟨rfl, -, rfl⟩ := hv1
        obtain ⟨rfl, -, rfl⟩ := hv2
        have hne := fun w1 => neq_val x y w1
        obtain ⟨r, hr'⟩ : ∃ r, decide (x = y) = r := ⟨_, rfl⟩
        rw [hr'] at hne
        have HQ := Lib.hid hr'
        have HXK := Lib.hid hxk
        have HYK := Lib.hid hyk
        clear hr' hxk hyk
        obtain ⟨x1, x2, x3, x4, x5, x6⟩ := x
        obtain ⟨y1, y2, y3, y4, y5, y6⟩ := y
        simp only at *
        have hki : (k : Int) < n := by omega
        cases r
        · go_wp2
          go_quiet (fail)
          go_wp2
          go_ret
          refine ⟨ret_bool ?_, hx.drewN _⟩
          rw [← HR.out]
          exact (decide_eq_false (HN.out k _ _ HXK.out HYK.out (of_decide_eq_false HQ.out))).symm
        · go_wp2
          go_quiet (fail)
          go_wp2
          go_roundw
          case rel => exact ⟨k + 1, by omega, by go_num, fun i x y h1 h2 hi => by
            rcases Nat.lt_or_ge i k with h | h
            · exact HALL.out i x y h1 h2 h
            · have hik : i = k := by omega
              subst hik
              have e1 := HXK.out
              have e2 := HYK.out
              rw [h1] at e1
              rw [h2] at e2
              injection e1 with e1
              injection e2 with e2
              rw [e1, e2]
              exact of_decide_eq_true HQ.out, hx.drewN _⟩
          case measure => simp [intOf]; omega
      · go_wp2
        go_ret
        refine ⟨ret_bool ?_, hx⟩
        rw [← HR.out]
        exact (decide_eq_true (HE.out fun i x y h1 h2 => HALL.out i x y h1 h2 (by have := (List.getElem?_eq_some_iff.1 h1).1; rw [HNN.out] at this; omega))).symm
  · have hl1 : ((a.length : Int) != (b.length : Int)) = true := by simp only [bne_iff_ne, ne_eq]; omega
    have hl2 : ((a.length : Int) == (b.length : Int)) = false := by simp only [beq_eq_false_iff_ne, ne_eq]; omega
    have hz : decide (a = b) = false := by simp only [decide_eq_false_iff_not]; intro h; exact hl (by rw [h])
    rw [hz]
    clear hz
    generalize a.length = n at *
    generalize b.length = m at *
    go_enter Try.func52, Try.ntmps52
    go_wp2
    go_ret
    exact ⟨rfl, Ext.refl _⟩
theorem sameVals_any (a b : List Val) (va vb : Value) (w : World) (ha : RF Any 6 valE w va a) (hb : RF Any 6 valE w vb b) :
    Calls Try.prog 27 #[va, vb] w fun e w' => e = .returned (.bool (decide (a = b))) ∧ Ext w w' := by
  have H := Lib.hid (eqVals_any a b va vb w ha hb)
  obtain ⟨aa, ac, rfl, _, _⟩ := ha.form
  obtain ⟨ba, bc, rfl, _, _⟩ := hb.form
  generalize decide (a = b) = r at *
  generalize a.length = na at *
  generalize b.length = nb at *
  clear ha hb
  go_enter Try.func27, Try.ntmps27
  go_wp2_with (go_at_call 52; refine H.out.mono ?_; rintro e w1 ⟨rfl, hx1⟩)
  go_ret
  exact ⟨rfl, hx1⟩

/-! ### Copies -/
theorem info_val : (Try.prog.info? 43).map (fun i => (i.zero, i.size, i.bytes)) = some (some (.agg #[.int .i64 0, .int .i64 0, .string ⟨#[]⟩, .int .i64 0, .int .i64 0, .int .i64 0]), 6, 56) := by kernel_rfl
/-- It returns values in new memory. -/
def RetV (w : World) (l : List Val) (en : Ending) (w' : World) : Prop := ∃ a c, en = .returned (.slice a l.length c) ∧ Ext w w' ∧ RF (Old w) 6 valE w' (.slice a l.length c) l
@[local go_sem] theorem eql_nil_val (w : World) (a : Option Addr) (n c : Nat) : (binOp .eql 22 (.slice a n c) (.slice none 0 0)).run Try.prog w = .ok (.bool a.isNone) w := Lib.run_eql_slice_nil w _ _ a n c 0 0 Try.underlying22
end Go.Proofs.Ytjaofbfppnmdjaa
