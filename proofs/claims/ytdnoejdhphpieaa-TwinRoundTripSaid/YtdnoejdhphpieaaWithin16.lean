/- The contract of within of the statements (within16). -/
import Derived.Test.YtdnoejdhphpieaaChecked
import Derived.Test.YtdnoejdhphpieaaBase
namespace Go.Proofs.Ytdnoejdhphpieaa
open Go.RowKit
attribute [local go_sem ↓] Go.wp_at_zero Go.wp_at_succ

theorem within16_any (n m : Int) (w : World) (hm : 1 ≤ m) (hm2 : m ≤ 100000) : Calls Try.prog 11 #[.int .i64 n, .int .i64 m] w fun e w' => e = .returned (.int .i64 (n % m)) ∧ w = w' := by
  have h1 := Int.emod_nonneg n (show m ≠ 0 by omega)
  have h2 := Int.emod_lt_of_pos n (show 0 < m by omega)
  have h3 : (m == 0) = false := by simp; omega
  have e1 : n.tmod m = n % m ∨ (n.tmod m < 0 ∧ n.tmod m + m = n % m) := by
    rcases Int.lt_or_le n 0 with hn | hn
    · by_cases hz : m ∣ n
      · left
        rw [Int.tmod_eq_zero_of_dvd hz, Int.emod_eq_zero_of_dvd hz]
      · right
        rw [Int.tmod_eq_emod]
        rw [if_neg (by intro hh; rcases hh with hh | hh; · omega
                       · exact hz hh)]
        have : (m.natAbs : Int) = m := by omega
        rw [this]
        omega
    · left; exact Int.tmod_eq_emod_of_nonneg hn
  generalize n % m = r at *
  generalize hq : n.tmod m = q at *
  rcases e1 with e1 | ⟨e1, e2⟩
  · subst e1
    go_enter Try.func11, Try.ntmps11
    go_wp2
    go_ret
    exact ⟨rfl, rfl⟩
  · have hr : r = q + m := by omega
    subst hr
    go_enter Try.func11, Try.ntmps11
    go_wp2
    go_ret
    exact ⟨rfl, rfl⟩
end Go.Proofs.Ytdnoejdhphpieaa
