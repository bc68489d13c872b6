/- Step of a publisher, whatever is due: layer 13. -/
import Derived.Test.YtopmhaebjpmbfaaPubC
import Derived.Test.YtopmhaebjpmbfaaPubD
import Derived.Test.YtopmhaebjpmbfaaPubE
namespace Go.Proofs.Ytopmhaebjpmbfaa
open Go.RowKit

theorem due_cases (s : PSt) (l : List Val) : dueS s l = 0 ∨ dueS s l = 1 ∨ dueS s l = 2 := by
  unfold dueS
  split
  · exact .inr (.inl rfl)
  · split
    · exact .inr (.inr rfl)
    · exact .inl rfl
theorem step_any (s : PSt) (l : List Val) (t1 t2 t3 : Int) (v u : Value) (w : World) (hv : RF Any 6 valE w v s.vals) (hu : RF Any 6 valE w u l) (hl : s.vals.length ≤ 1000000000) (hl' : l.length ≤ 1000000000) (hm : Mod s) :
    Calls Try.prog 17 #[pubA s v, u, .agg #[.int .i64 t1, .int .i64 t2, .int .i64 t3]] w (RetP w (stepS s l t1 t2 t3)) := by
  unfold stepS
  rcases due_cases s l with h | h | h
  · rw [if_pos h]
    exact step_quiet s l t1 t2 t3 v u w hv hu hl hl' hm h
  · rw [if_neg (by omega), if_pos h]
    cases hst : s.started
    · have e : changeS s l t1 t2 t3 = ⟨s.pub, s.first, s.max, s.rev, true, 1, 0, 0, s.first, t1, t2, t3, l⟩ := by unfold changeS; rw [if_neg (by rw [hst]; simp)]
      rw [e]
      exact step_change0 s l t1 t2 t3 v u w hv hu hl hl' hm h hst
    · by_cases hs : s.state = 4294967295
      · have e : changeS s l t1 t2 t3 = ⟨s.pub, s.first, s.max, s.rev, true, 1, 0, 0, s.first, t1, t2, t3, l⟩ := by unfold changeS; rw [if_neg (by rw [hs]; simp)]
        rw [e]
        exact step_change1 s l t1 t2 t3 v u w hv hu hl hl' hm h hst (by rw [hs]; rfl)
      · have e : changeS s l t1 t2 t3 = ⟨s.pub, s.first, s.max, s.rev, true, s.state + 1, 0, 0, s.first, t1, t2, t3, l⟩ := by unfold changeS; rw [if_pos ⟨hst, hs⟩]
        rw [e]
        exact step_change2 s l t1 t2 t3 v u w hv hu hl hl' hm h hst (by simpa using hs)
  · rw [if_neg (by omega), if_neg (by omega)]
    by_cases hs : s.seq = 4294967295
    · have e : repeatS s = ⟨s.pub, s.first, s.max, s.rev, s.started, s.state, 1, 0, min (2 * bnd s.gap) s.max, s.sec, s.frac, s.qual, s.vals⟩ := by unfold repeatS; rw [if_neg (by rw [hs]; simp)]
      rw [e]
      exact step_repeat0 s l t1 t2 t3 v u w hv hu hl hl' hm h (by rw [hs]; rfl)
    · have e : repeatS s = ⟨s.pub, s.first, s.max, s.rev, s.started, s.state, s.seq + 1, 0, min (2 * bnd s.gap) s.max, s.sec, s.frac, s.qual, s.vals⟩ := by unfold repeatS; rw [if_pos hs]
      rw [e]
      exact step_repeat1 s l t1 t2 t3 v u w hv hu hl hl' hm h (by simpa using hs)
end Go.Proofs.Ytopmhaebjpmbfaa
