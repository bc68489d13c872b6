/- What events do to a subscriber: plain. -/
import Derived.Test.YtopmhaebjpmbfaaSubM
namespace Go.Proofs.Ytopmhaebjpmbfaa
open Go.RowKit
structure Srel (s : SSt) : Prop where
  pub : s.pub = 3
  rev : s.rev = 4
  vl : s.vals.length ≤ 1
  l0 : 0 ≤ s.left
  l1 : s.left ≤ 4
  o0 : 0 ≤ s.lost
  o1 : s.lost ≤ 1000000
  kn : s.known = true → 1 ≤ s.state ∧ s.state ≤ 6 ∧ 0 ≤ s.seq ∧ s.seq ≤ 4
theorem rel_new : Srel (newSub 3 4) := ⟨rfl, rfl, by decide, by decide, by decide, by decide, by decide, fun h => by cases h⟩
theorem rel_tick {s : SSt} (h : Srel s) : Srel (tickS s) := by
  unfold tickS
  split
  · exact ⟨h.pub, h.rev, h.vl, by have := h.l0; simp only; omega, by have := h.l1; simp only; omega, h.o0, h.o1, h.kn⟩
  · exact h
theorem raise_le {n k : Int} (h0 : 0 ≤ n) (h1 : n ≤ 1000000) (hk : 0 ≤ k) : 0 ≤ raiseS n k ∧ raiseS n k ≤ 1000000 := by
  unfold raiseS
  split <;> omega
theorem rel_acc {s : SSt} (h : Srel s) (x : Evt) (k : Int) (hk : 0 ≤ k) : Srel (accS s (evM x) k) := by
  obtain ⟨e0, e1, e2, e3, e4, e5, e6, e7⟩ := evM_ok x
  have hr := raise_le h.o0 h.o1 hk
  exact ⟨h.pub, h.rev, by show (evM x).vals.length ≤ 1; omega, by show 0 ≤ (evM x).ttl; omega, e6, hr.1, hr.2, fun _ => ⟨e1, e2, e3, e4⟩⟩
/-- What Take says of an event's message. -/
structure Tsay (s : SSt) (m : Msg) (t : SSt) (k : Int) : Prop where
  ways : k = 1 ∨ k = 2 ∨ k = 3 ∨ k = 4 ∨ k = 5
  newer : k = 2 ∨ k = 3 → ¬ (m.state < s.state ∨ m.state = s.state ∧ m.seq ≤ s.seq)
  old : k = 4 → t = s ∧ m.state ≤ s.state
theorem rel_take {s : SSt} (h : Srel s) (x : Evt) : Srel (takeS s (evM x)).1 ∧ Tsay s (evM x) (takeS s (evM x)).1 (takeS s (evM x)).2 := by
  obtain ⟨e0, e1, e2, e3, e4, e5, e6, e7⟩ := evM_ok x
  have hp := h.pub
  have hr := h.rev
  have ep : (evM x).pub = 3 := rfl
  have er : (evM x).rev = 4 := rfl
  have ha := fun k hk => rel_acc h x k hk
  generalize evM x = m at *
  unfold takeS
  rw [if_neg (by rw [e0, ep, er, hp, hr]; simp)]
  cases hk : s.known
  · rw [if_pos rfl]
    exact ⟨ha 0 (by omega), by simp, by intro h; simp only at h; omega, by intro h; simp only at h; omega⟩
  · obtain ⟨k1, k2, k3, k4⟩ := h.kn hk
    rw [if_neg (by simp)]
    have d1 := dist_small (a := s.seq) (b := m.seq) (by omega) (by omega) (by omega) (by omega)
    have d2 := dist_small (a := s.state) (b := m.state) (by omega) (by omega) (by omega) (by omega)
    split
    · exact ⟨ha 0 (by omega), by simp, by intro h; simp only at h; omega, by intro h; simp only at h; omega⟩
    · split
      · split
        · rename_i h1 h2
          have h3 := d1.1.1 h2.1
          have h4 := d1.2 h3
          exact ⟨ha _ (by omega), by simp, by intro _; omega, by intro h; simp only at h; omega⟩
        · exact ⟨h, by simp, by intro h; simp only at h; omega, by intro _; exact ⟨rfl, by omega⟩⟩
      · split
        · rename_i h1 h2
          have h3 := d2.1.1 h2
          have h4 := d2.2 h3
          exact ⟨ha _ (by omega), by simp, by intro _; omega, by intro h; simp only at h; omega⟩
        · rename_i h1 h2
          refine ⟨h, by simp, by intro h; simp only at h; omega, fun _ => ⟨rfl, ?_⟩⟩
          rcases Int.lt_or_le s.state m.state with h3 | h3
          · exact absurd (d2.1.2 h3) h2
          · exact h3
theorem evt_get {V : Nat → Prop} {w : World} {v : Value} {l : List Evt} (h : RF V 6 evtE w v l) {i : Nat} {x : Evt} (hx : l[i]? = some x) : ∃ b off c, v = .slice (some ⟨b, off, none⟩) l.length c ∧
    w.cell? ⟨b, off + i * 6, none⟩ = some (.int .i64 x.state) ∧ w.cell? ⟨b, off + i * 6 + 1, none⟩ = some (.int .i64 x.seq) ∧ w.cell? ⟨b, off + i * 6 + 2, none⟩ = some (.int .i64 x.ttl) ∧
    w.cell? ⟨b, off + i * 6 + 3, none⟩ = some (.bool x.val) ∧ w.cell? ⟨b, off + i * 6 + 4, none⟩ = some (.bool x.test) ∧ w.cell? ⟨b, off + i * 6 + 5, none⟩ = some (.bool x.tick) := by
  obtain ⟨b, off, c, hv, _, _, hc⟩ := h.get hx
  exact ⟨b, off, c, hv, hc 0 _ rfl, hc 1 _ rfl, hc 2 _ rfl, hc 3 _ rfl, hc 4 _ rfl, hc 5 _ rfl⟩
end Go.Proofs.Ytopmhaebjpmbfaa
