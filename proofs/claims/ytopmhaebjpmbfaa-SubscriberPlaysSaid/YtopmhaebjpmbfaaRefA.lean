/- Contracts of distance, newer, New and Tick of the reference: layer 14. -/
import Derived.Test.YtopmhaebjpmbfaaSubP
import Derived.Test.YtopmhaebjpmbfaaBlk
import Derived.Test.YtopmhaebjpmbfaaChecked
namespace Go.Proofs.Ytopmhaebjpmbfaa
open Go.RowKit
attribute [local go_sem ↓] Go.wp_at_zero Go.wp_at_succ

/-- A number of messages. -/
def in33 (a : Int) : Prop := 0 ≤ a ∧ a ≤ 8589934592
theorem tmod_in (x : Int) (h1 : -4294967295 < x) (h2 : x < 4294967295) : x.tmod 4294967295 = x := by
  by_cases h : x < 0
  · have := Int.neg_tmod (-x) 4294967295
    rw [Int.neg_neg, Int.tmod_eq_emod_of_nonneg (a := -x) (by omega), Int.emod_eq_of_lt (by omega) (by omega)] at this
    omega
  · rw [Int.tmod_eq_emod_of_nonneg (by omega), Int.emod_eq_of_lt (by omega) h2]
theorem distanceR_any (a b : Int) (w : World) (ha : in33 a) (hb : in33 b) : Calls Try.prog 63 #[.int .i64 a, .int .i64 b] w fun e w' => e = .returned (.int .i64 (dist a b)) ∧ w = w' := by
  unfold in33 at ha hb
  have e1 : a.tmod 4294967295 = a % 4294967295 := Int.tmod_eq_emod_of_nonneg ha.1
  have e2 : b.tmod 4294967295 = b % 4294967295 := Int.tmod_eq_emod_of_nonneg hb.1
  obtain ⟨x, hx⟩ : ∃ x, b % 4294967295 - a % 4294967295 = x := ⟨_, rfl⟩
  have e3 : wrap64 (b % 4294967295 - a % 4294967295) = x := by unfold wrap64; omega
  have e3' : IntKind.i64.wrap (b % 4294967295 - a % 4294967295) = x := by rw [IntKind.wrap_i64]; omega
  have e4 : x.tmod 4294967295 = x := tmod_in x (by omega) (by omega)
  by_cases hn : x < 0
  · have hd : dist a b = x + 4294967295 := by unfold dist; rw [hx]; omega
    have e5 : wrap64 (x + 4294967295) = x + 4294967295 := by unfold wrap64; omega
    have HE := Lib.hid e5
    rw [hd]
    generalize a % 4294967295 = ra at *
    generalize b % 4294967295 = rb at *
    clear ha hb hx hd e5
    go_enter Try.func63, Try.ntmps63
    go_wp2_with fail
    go_ret
    exact ⟨ret_int HE.out, rfl⟩
  · have hd : dist a b = x := by unfold dist; rw [hx]; omega
    rw [hd]
    generalize a % 4294967295 = ra at *
    generalize b % 4294967295 = rb at *
    clear ha hb hx hd
    go_enter Try.func63, Try.ntmps63
    go_wp2_with fail
    go_ret
    exact ⟨rfl, rfl⟩
theorem newerR_any (a b : Int) (w : World) (ha : in33 a) (hb : in33 b) : Calls Try.prog 62 #[.int .i64 a, .int .i64 b] w fun e w' => e = .returned (.bool (newB a b)) ∧ w = w' := by
  have HD := Lib.hid (distanceR_any a b w ha hb)
  have hn : newB a b = (decide (1 ≤ dist a b) && decide (dist a b ≤ 2147483647)) := rfl
  rw [hn]
  generalize dist a b = d at *
  clear hn ha hb
  cases h1 : decide (1 ≤ d)
  · go_enter Try.func62, Try.ntmps62
    go_wp2_with fail
    refine HD.out.mono ?_
    rintro e w1 ⟨rfl, rfl⟩
    go_wp2_with fail
    go_ret
    exact ⟨rfl, rfl⟩
  · cases h2 : decide (d ≤ 2147483647)
    all_goals
      go_enter Try.func62, Try.ntmps62
      go_wp2_with fail
      refine HD.out.mono ?_
      rintro e w1 ⟨rfl, rfl⟩
      go_wp2_with fail
      go_ret
      exact ⟨rfl, rfl⟩
end Go.Proofs.Ytopmhaebjpmbfaa
