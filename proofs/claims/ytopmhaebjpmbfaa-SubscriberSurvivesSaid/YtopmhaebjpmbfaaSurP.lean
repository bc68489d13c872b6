/- A publisher with constant values and a subscriber that misses one retransmission: the plain law of layer 14. -/
import Derived.Test.YtopmhaebjpmbfaaSendP
namespace Go.Proofs.Ytopmhaebjpmbfaa
open Go.RowKit

/-- What a subscriber is behind one step: it lets time pass, and takes the message if there is one and it is not lost. -/
def hears (s : SSt) (ms : List Msg) (lost : Bool) : SSt := match ms with
  | [m] => if lost then tickS s else (takeS (tickS s) m).1
  | _ => tickS s
/-- The subscriber misses the publisher's last message. -/
structure Miss (p : PSt) (s : SSt) : Prop where
  pub : s.pub = 3
  rev : s.rev = 4
  kn : s.known = true
  state : s.state = p.state
  seq : s.seq = p.seq - 1
  test : s.test = false
  vals : s.vals = p.vals
  left : p.gap + 1 - p.since ≤ s.left ∧ s.left ≤ 1000
structure Vrel (lose k n : Int) (p : PSt) (s : SSt) : Prop where
  good : Good 3 4 k p
  m79 : p.max ≤ 79
  n0 : 0 ≤ n
  zero : n = 0 → k = 0 ∧ p.started = false ∧ s = newSub 3 4
  on : 1 ≤ n → p.started = true ∧ p.vals = valsOf 1 ∧ p.seq = n - 1 ∧ k ≤ 79 * (n - 1) + p.since + 1
  ph : 1 ≤ n → (n ≤ lose ∧ Near p s ∧ s.lost = 0) ∨ (n = lose + 1 ∧ Miss p s ∧ s.lost = 0) ∨ (lose + 2 ≤ n ∧ Near p s ∧ s.lost = 1)
theorem Vrel.time {lose k n : Int} {p : PSt} {s : SSt} (h : Vrel lose k n p s) : k ≤ 79 * n := by
  have := h.n0
  have hm := h.m79
  rcases Int.lt_or_le n 1 with h1 | h1
  · have := (h.zero (by omega)).1; omega
  · obtain ⟨h2, _, _, h3⟩ := h.on h1
    have := h.good.on h2
    omega
theorem Vrel.end {lose k n : Int} {p : PSt} {s : SSt} (h : Vrel lose k n p s) (h1 : 1 ≤ lose) (hn : n = lose + 3) : s.lost = 1 := by
  rcases h.ph (by omega) with ⟨h2, _⟩ | ⟨h2, _⟩ | ⟨_, _, h2⟩
  · omega
  · omega
  · exact h2
theorem raise_small {a b : Int} (h1 : 0 ≤ b) (h : a + b ≤ 10) : raiseS a b = a + b := by
  unfold raiseS; rw [if_neg (by omega)]
theorem near_ok {k : Int} {p : PSt} {s : SSt} (hG : Good 3 4 k p) (hs : p.started = true) (h : Near p s ∨ Miss p s) : validS s = true ∧ s.vals = p.vals := by
  have ho := hG.on hs
  rcases h with h | h
  · exact ⟨near_valid hG hs h, h.vals⟩
  · refine ⟨?_, h.vals⟩
    have := h.left
    unfold validS
    rw [h.kn, h.test]
    simp only [Bool.true_and, Bool.not_false, Bool.and_true, decide_eq_true_eq]
    omega
theorem sur_step {lose k n : Int} {p q : PSt} {s : SSt} {ms : List Msg} (hk : 0 ≤ k ∧ k ≤ 900) (hl : 1 ≤ lose ∧ lose ≤ 6) (hn : n < lose + 3) (h : Vrel lose k n p s) (hst : stepS p (valsOf 1) 0 0 0 = (q, ms)) :
    Vrel lose (k + 1) (n + ms.length) q (hears s ms (decide (n = lose))) ∧ validS (hears s ms (decide (n = lose))) = true ∧ (hears s ms (decide (n = lose))).vals = valsOf 1 := by
  have hG := h.good
  have hb := hG.bnd
  have f1 := hG.f1
  have f2 := hG.f2
  have f3 := hG.f3
  have m79 := h.m79
  have n0 := h.n0
  have hv : vErr (valsOf 1) = 0 ∧ (valsOf 1).length ≤ 24 := by decide +kernel
  have e3 : p.pub = 3 := hG.pub
  have e4 : p.rev = 4 := hG.rev
  rcases Int.lt_or_le n 1 with hn1 | hn1
  · obtain ⟨hk0, hs0, rfl⟩ := h.zero (by omega)
    have hn0 : n = 0 := by omega
    subst hn0
    have hd1 : dueS p (valsOf 1) = 1 := by unfold dueS; rw [if_pos (.inl hs0)]
    obtain ⟨e1, hG1⟩ := step_change (a := 0) (b := 0) (c := 0) (by omega) (by omega) (by omega) hG (by rfl) hv.1 hv.2 hd1
    have hck := msg_fine (by omega) hG1 rfl
    simp only at hck
    have hoff := hG.off hs0
    rw [hst] at e1
    simp only [Prod.mk.injEq] at e1
    obtain ⟨rfl, rfl⟩ := e1
    have hh : hears (newSub 3 4) [⟨p.pub, 3 * p.first + 1, 0, 0, 0, p.state + 1, 0, false, p.rev, valsOf 1⟩] (decide ((0 : Int) = lose)) = accS (newSub 3 4) ⟨p.pub, 3 * p.first + 1, 0, 0, 0, p.state + 1, 0, false, p.rev, valsOf 1⟩ 0 := by
      rw [show decide ((0 : Int) = lose) = false by simp; omega]
      simp only [hears]
      rw [if_neg (by simp), show tickS (newSub 3 4) = newSub 3 4 by decide +kernel, take_new hck (by simp only [newSub]; exact e3) (by simp only [newSub]; exact e4) rfl]
    rw [hh]
    have hN : Near ⟨p.pub, p.first, p.max, p.rev, true, p.state + 1, 0, 0, p.first, 0, 0, 0, valsOf 1⟩ (accS (newSub 3 4) ⟨p.pub, 3 * p.first + 1, 0, 0, 0, p.state + 1, 0, false, p.rev, valsOf 1⟩ 0) :=
      ⟨rfl, rfl, rfl, rfl, rfl, rfl, rfl, by simp only [accS]; omega⟩
    have hok := near_ok hG1 rfl (.inl hN)
    refine ⟨⟨hG1, m79, by simp, fun h => by simp at h, fun _ => ⟨rfl, rfl, by simp, by simp; omega⟩, fun _ => .inl ⟨by simp; omega, hN, by simp only [accS, newSub]; decide +kernel⟩⟩, hok.1, hok.2⟩
  · obtain ⟨hon, hvv, hseq, htime⟩ := h.on hn1
    have ho := hG.on hon
    have hd := due_two hon (l := valsOf 1) hvv.symm
    by_cases hdue : p.since + 1 = p.gap
    · rw [if_pos hdue] at hd
      obtain ⟨e1, hG1⟩ := step_repeat (a := 0) (b := 0) (c := 0) (by omega) (by omega) (by omega) hG hd
      have hck := msg_fine (by omega) hG1 hon
      simp only at hck
      rw [hst] at e1
      simp only [Prod.mk.injEq] at e1
      obtain ⟨rfl, rfl⟩ := e1
      have hon1 := hG1.on hon
      simp only at hon1
      have hall : ∀ lo : Int, 0 ≤ lo → lo ≤ 1 → s.pub = 3 → s.rev = 4 → s.known = true → s.state = p.state → 0 ≤ s.seq → s.seq < p.seq + 1 → s.test = false → s.vals = p.vals → 1 < s.left → s.lost + ((p.seq + 1) - s.seq - 1) = lo → 0 ≤ s.lost → n ≠ lose →
          Near { p with seq := p.seq + 1, gap := min (2 * p.gap) p.max, since := 0 } (hears s [⟨p.pub, 3 * (min (2 * p.gap) p.max) + 1, p.sec, p.frac, p.qual, p.state, p.seq + 1, false, p.rev, p.vals⟩] (decide (n = lose))) ∧ (hears s [⟨p.pub, 3 * (min (2 * p.gap) p.max) + 1, p.sec, p.frac, p.qual, p.state, p.seq + 1, false, p.rev, p.vals⟩] (decide (n = lose))).lost = lo := by
        intro lo l0 l1 h1 h2 h3 h4 h5 h6 h7 h8 h9 h10 h11 h12
        rw [show decide (n = lose) = false by simpa using h12]
        simp only [hears]
        rw [if_neg (by simp), tick_pos (by omega), take_same (s := { s with left := s.left - 1 }) hck (by dsimp only; omega) (by dsimp only; omega) h3 (by dsimp only; omega) (by dsimp only; omega) h5 (by dsimp only; omega) (by dsimp only; omega) h7.symm h8.symm]
        refine ⟨⟨h1, h2, rfl, rfl, rfl, rfl, rfl, by simp only [accS]; omega⟩, ?_⟩
        simp only [accS]
        rw [raise_small (by omega) (by omega)]
        omega
      have hfin : ∀ x : SSt, (Near { p with seq := p.seq + 1, gap := min (2 * p.gap) p.max, since := 0 } x ∨ Miss { p with seq := p.seq + 1, gap := min (2 * p.gap) p.max, since := 0 } x) →
          ((n + 1 ≤ lose ∧ Near { p with seq := p.seq + 1, gap := min (2 * p.gap) p.max, since := 0 } x ∧ x.lost = 0) ∨ (n + 1 = lose + 1 ∧ Miss { p with seq := p.seq + 1, gap := min (2 * p.gap) p.max, since := 0 } x ∧ x.lost = 0) ∨ (lose + 2 ≤ n + 1 ∧ Near { p with seq := p.seq + 1, gap := min (2 * p.gap) p.max, since := 0 } x ∧ x.lost = 1)) →
          Vrel lose (k + 1) (n + ([⟨p.pub, 3 * (min (2 * p.gap) p.max) + 1, p.sec, p.frac, p.qual, p.state, p.seq + 1, false, p.rev, p.vals⟩] : List Msg).length) { p with seq := p.seq + 1, gap := min (2 * p.gap) p.max, since := 0 } x ∧ validS x = true ∧ x.vals = valsOf 1 := by
        intro x hx hp
        have hok := near_ok hG1 hon hx
        refine ⟨⟨hG1, m79, by simp; omega, fun h => by simp at h; omega, fun _ => ⟨hon, hvv, by simp; omega, by simp; omega⟩, fun _ => ?_⟩, hok.1, hok.2.trans hvv⟩
        simpa using hp
      rcases h.ph hn1 with ⟨p1, p2, p3⟩ | ⟨p1, p2, p3⟩ | ⟨p1, p2, p3⟩
      · have hlf := p2.left
        have hsq := p2.seq
        by_cases hnl : n = lose
        · have hm : hears s [⟨p.pub, 3 * (min (2 * p.gap) p.max) + 1, p.sec, p.frac, p.qual, p.state, p.seq + 1, false, p.rev, p.vals⟩] (decide (n = lose)) = { s with left := s.left - 1 } := by
            rw [show decide (n = lose) = true by simpa using hnl]
            simp only [hears]
            rw [if_pos trivial, tick_pos (by omega)]
          rw [hm]
          have hM : Miss { p with seq := p.seq + 1, gap := min (2 * p.gap) p.max, since := 0 } { s with left := s.left - 1 } :=
            ⟨p2.pub, p2.rev, p2.kn, p2.state, by dsimp only; omega, p2.test, p2.vals, by dsimp only; omega⟩
          exact hfin _ (.inr hM) (.inr (.inl ⟨by omega, hM, p3⟩))
        · obtain ⟨q1, q2⟩ := hall 0 (by omega) (by omega) p2.pub p2.rev p2.kn p2.state (by omega) (by omega) p2.test p2.vals (by omega) (by omega) (by omega) hnl
          exact hfin _ (.inl q1) (.inl ⟨by omega, q1, q2⟩)
      · have hlf := p2.left
        have hsq := p2.seq
        obtain ⟨q1, q2⟩ := hall 1 (by omega) (by omega) p2.pub p2.rev p2.kn p2.state (by omega) (by omega) p2.test p2.vals (by omega) (by omega) (by omega) (by omega)
        exact hfin _ (.inl q1) (.inr (.inr ⟨by omega, q1, q2⟩))
      · have hlf := p2.left
        have hsq := p2.seq
        obtain ⟨q1, q2⟩ := hall 1 (by omega) (by omega) p2.pub p2.rev p2.kn p2.state (by omega) (by omega) p2.test p2.vals (by omega) (by omega) (by omega) (by omega)
        exact hfin _ (.inl q1) (.inr (.inr ⟨by omega, q1, q2⟩))
    · rw [if_neg hdue] at hd
      obtain ⟨e1, hG1⟩ := step_still (a := 0) (b := 0) (c := 0) hG hd
      rw [hst] at e1
      simp only [Prod.mk.injEq] at e1
      obtain ⟨rfl, rfl⟩ := e1
      have hh : hears s [] (decide (n = lose)) = tickS s := rfl
      rw [hh]
      have hlf : 1 < s.left := by
        rcases h.ph hn1 with ⟨_, p2, _⟩ | ⟨_, p2, _⟩ | ⟨_, p2, _⟩
        · have := p2.left; omega
        · have := p2.left; omega
        · have := p2.left; omega
      rw [tick_pos (by omega)]
      have hp : (n ≤ lose ∧ Near { p with since := p.since + 1 } { s with left := s.left - 1 } ∧ s.lost = 0) ∨ (n = lose + 1 ∧ Miss { p with since := p.since + 1 } { s with left := s.left - 1 } ∧ s.lost = 0) ∨ (lose + 2 ≤ n ∧ Near { p with since := p.since + 1 } { s with left := s.left - 1 } ∧ s.lost = 1) := by
        rcases h.ph hn1 with ⟨p1, p2, p3⟩ | ⟨p1, p2, p3⟩ | ⟨p1, p2, p3⟩
        · exact .inl ⟨p1, ⟨p2.pub, p2.rev, p2.kn, p2.state, p2.seq, p2.test, p2.vals, by have := p2.left; dsimp only; omega⟩, p3⟩
        · exact .inr (.inl ⟨p1, ⟨p2.pub, p2.rev, p2.kn, p2.state, p2.seq, p2.test, p2.vals, by have := p2.left; dsimp only; omega⟩, p3⟩)
        · exact .inr (.inr ⟨p1, ⟨p2.pub, p2.rev, p2.kn, p2.state, p2.seq, p2.test, p2.vals, by have := p2.left; dsimp only; omega⟩, p3⟩)
      have hx : Near { p with since := p.since + 1 } { s with left := s.left - 1 } ∨ Miss { p with since := p.since + 1 } { s with left := s.left - 1 } := by
        rcases hp with ⟨_, h1, _⟩ | ⟨_, h1, _⟩ | ⟨_, h1, _⟩
        · exact .inl h1
        · exact .inr h1
        · exact .inl h1
      have hok := near_ok hG1 hon hx
      refine ⟨⟨hG1, m79, by simp; omega, fun h => by simp at h; omega, fun _ => ⟨hon, hvv, by simp; omega, by simp; omega⟩, fun _ => by simpa using hp⟩, hok.1, hok.2.trans hvv⟩
end Go.Proofs.Ytopmhaebjpmbfaa
