/- What a publisher does with values that can be sent: the plain law of layer 13. -/
import Derived.Test.YtopmhaebjpmbfaaPubP
namespace Go.Proofs.Ytopmhaebjpmbfaa

/-- A publisher with fine settings after at most N messages. -/
structure Good (p r N : Int) (s : PSt) : Prop where
  pub : s.pub = p
  rev : s.rev = r
  f1 : 1 ≤ s.first
  f2 : s.first ≤ s.max
  f3 : s.max ≤ 1000
  st : stErr s.sec s.frac s.qual = 0
  ve : vErr s.vals = 0
  vl : s.vals.length ≤ 24
  off : s.started = false → s.state = 0 ∧ s.seq = 0 ∧ s.since = 0 ∧ s.gap = 0
  on : s.started = true → 1 ≤ s.state ∧ s.state ≤ N ∧ 0 ≤ s.seq ∧ s.seq ≤ N ∧ 0 ≤ s.since ∧ s.since < s.gap ∧ s.gap ≤ s.max
theorem Good.new {p r f m : Int} (h1 : 1 ≤ f) (h2 : f ≤ m) (h3 : m ≤ 1000) : Good p r 0 ⟨p, f, m, r, false, 0, 0, 0, 0, 0, 0, 0, []⟩ :=
  ⟨rfl, rfl, h1, h2, h3, rfl, rfl, by simp, fun _ => ⟨rfl, rfl, rfl, rfl⟩, fun h => by cases h⟩
theorem Good.bnd {p r N : Int} {s : PSt} (h : Good p r N s) : 0 ≤ s.gap ∧ s.gap ≤ 1000 ∧ 0 ≤ s.since ∧ s.since ≤ 1000 := by
  have := h.f3
  cases hs : s.started
  · obtain ⟨_, _, h3, h4⟩ := h.off hs; omega
  · have := h.on hs; omega
theorem bnd_in {n : Int} (h1 : 0 ≤ n) (h2 : n ≤ 1000) : bnd n = n := by unfold bnd; omega
theorem cur_ok {p r N : Int} {s : PSt} (hp : 0 ≤ p ∧ p ≤ 999) (hr : 0 ≤ r ∧ r ≤ 4294967295) (hN : N ≤ 4294967295) (h : Good p r N s) (hs : s.started = true) : chkM (curS s) = 0 := by
  obtain ⟨h1, h2, h3, h4, h5, h6, h7⟩ := h.on hs
  have f3 := h.f3
  have e1 := h.pub
  have e2 := h.rev
  have hb := bnd_in (n := s.gap) (by omega) (by omega)
  unfold chkM curS
  simp only [hb]
  rw [if_neg (by omega), if_neg (by omega), if_neg (by rw [h.st]; simp), if_neg (by have := h.vl; omega)]
  exact h.ve
theorem due_change {s : PSt} {l : List Val} (h : dueS s l = 1) : s.started = false ∨ l ≠ s.vals := by
  unfold dueS at h
  split at h
  · assumption
  · split at h <;> simp at h
theorem due_other {s : PSt} {l : List Val} (h : dueS s l ≠ 1) : s.started = true ∧ l = s.vals := by
  unfold dueS at h
  split at h
  · exact absurd rfl h
  · rename_i hh
    constructor
    · cases hs : s.started
      · exact absurd (.inl hs) hh
      · rfl
    · by_cases hl : l = s.vals
      · exact hl
      · exact absurd (.inr hl) hh
theorem due_two {s : PSt} {l : List Val} (h : s.started = true) (hl : l = s.vals) : dueS s l = if s.since + 1 = s.gap then 2 else 0 := by
  unfold dueS
  rw [if_neg (by intro hh; rcases hh with hh | hh; · rw [h] at hh; cases hh
                 · exact hh hl)]
section
variable {p r N : Int} {s : PSt} {l : List Val} {a b c : Int}
theorem step_change (hp : 0 ≤ p ∧ p ≤ 999) (hr : 0 ≤ r ∧ r ≤ 4294967295) (hN : 0 ≤ N ∧ N ≤ 4294967290) (h : Good p r N s) (ht : stErr a b c = 0) (hv : vErr l = 0) (hl : l.length ≤ 24) (hd : dueS s l = 1) :
    stepS s l a b c = (⟨s.pub, s.first, s.max, s.rev, true, s.state + 1, 0, 0, s.first, a, b, c, l⟩, [⟨s.pub, 3 * s.first + 1, a, b, c, s.state + 1, 0, false, s.rev, l⟩]) ∧ Good p r (N + 1) ⟨s.pub, s.first, s.max, s.rev, true, s.state + 1, 0, 0, s.first, a, b, c, l⟩ := by
  have hst : 0 ≤ s.state ∧ s.state ≤ N := by
    cases hs : s.started
    · have := h.off hs; omega
    · have := h.on hs; omega
  have e : changeS s l a b c = ⟨s.pub, s.first, s.max, s.rev, true, s.state + 1, 0, 0, s.first, a, b, c, l⟩ := by
    unfold changeS
    cases hs : s.started
    · rw [if_neg (by simp), (h.off hs).1]; rfl
    · rw [if_pos ⟨rfl, by omega⟩]
  have f1 := h.f1
  have f2 := h.f2
  have f3 := h.f3
  have g : Good p r (N + 1) ⟨s.pub, s.first, s.max, s.rev, true, s.state + 1, 0, 0, s.first, a, b, c, l⟩ :=
    ⟨h.pub, h.rev, h.f1, h.f2, h.f3, ht, hv, hl, (fun h => by cases h), fun _ => (by simp only; omega)⟩
  refine ⟨?_, g⟩
  unfold stepS
  rw [if_neg (by omega), if_pos hd, e]
  unfold sendS
  rw [if_pos (cur_ok hp hr (by omega) g rfl)]
  unfold curS
  simp only [bnd_in (n := s.first) (by omega) (by omega)]
theorem step_repeat (hp : 0 ≤ p ∧ p ≤ 999) (hr : 0 ≤ r ∧ r ≤ 4294967295) (hN : 0 ≤ N ∧ N ≤ 4294967290) (h : Good p r N s) (hd : dueS s l = 2) :
    stepS s l a b c = ({ s with seq := s.seq + 1, gap := min (2 * s.gap) s.max, since := 0 }, [⟨s.pub, 3 * (min (2 * s.gap) s.max) + 1, s.sec, s.frac, s.qual, s.state, s.seq + 1, false, s.rev, s.vals⟩]) ∧ Good p r (N + 1) { s with seq := s.seq + 1, gap := min (2 * s.gap) s.max, since := 0 } := by
  have hon := (due_other (s := s) (l := l) (by omega)).1
  have hh := h.on hon
  have f1 := h.f1
  have f2 := h.f2
  have f3 := h.f3
  have hb := bnd_in (n := s.gap) (by omega) (by omega)
  have e : repeatS s = { s with seq := s.seq + 1, gap := min (2 * s.gap) s.max, since := 0 } := by
    unfold repeatS
    rw [if_pos (by omega), hb]
  have g : Good p r (N + 1) { s with seq := s.seq + 1, gap := min (2 * s.gap) s.max, since := 0 } :=
    ⟨h.pub, h.rev, h.f1, h.f2, h.f3, h.st, h.ve, h.vl, (fun h => by simp only at h; rw [hon] at h; cases h), fun _ => (by simp only; omega)⟩
  refine ⟨?_, g⟩
  unfold stepS
  rw [if_neg (by omega), if_neg (by omega), e]
  unfold sendS
  rw [if_pos (cur_ok hp hr (by omega) g hon)]
  unfold curS
  simp only [bnd_in (n := min (2 * s.gap) s.max) (by omega) (by omega)]
theorem step_still (h : Good p r N s) (hd : dueS s l = 0) : stepS s l a b c = ({ s with since := s.since + 1 }, []) ∧ Good p r (N + 1) { s with since := s.since + 1 } := by
  obtain ⟨hon, hl⟩ := due_other (s := s) (l := l) (by omega)
  have hh := h.on hon
  have h2 := due_two hon hl
  rw [hd] at h2
  have h3 : s.since + 1 ≠ s.gap := by
    intro e
    rw [if_pos e] at h2
    cases h2
  refine ⟨by unfold stepS; rw [if_pos hd], ⟨h.pub, h.rev, h.f1, h.f2, h.f3, h.st, h.ve, h.vl, (fun h => by simp only at h; rw [hon] at h; cases h), fun _ => (by simp only; omega)⟩⟩
end
end Go.Proofs.Ytopmhaebjpmbfaa
