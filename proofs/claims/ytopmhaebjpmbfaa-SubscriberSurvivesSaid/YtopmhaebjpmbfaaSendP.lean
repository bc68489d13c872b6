/- A publisher and a subscriber that hears it: the plain law of layer 14. -/
import Derived.Test.YtopmhaebjpmbfaaSendB
import Derived.Test.YtopmhaebjpmbfaaPubH
namespace Go.Proofs.Ytopmhaebjpmbfaa
open Go.RowKit

/-- The subscriber has the publisher's last message. -/
structure Near (p : PSt) (s : SSt) : Prop where
  pub : s.pub = 3
  rev : s.rev = 4
  kn : s.known = true
  state : s.state = p.state
  seq : s.seq = p.seq
  test : s.test = false
  vals : s.vals = p.vals
  left : s.left = 3 * p.gap + 1 - p.since
theorem take_new {s : SSt} {m : Msg} (hc : chkM m = 0) (h1 : m.pub = s.pub) (h2 : m.rev = s.rev) (h3 : s.known = false) : takeS s m = (accS s m 0, 1) := by
  unfold takeS
  rw [if_neg (by rw [hc, h1, h2]; simp), if_pos h3]
theorem take_dead {s : SSt} {m : Msg} (hc : chkM m = 0) (h1 : m.pub = s.pub) (h2 : m.rev = s.rev) (h3 : s.known = true) (h4 : s.left < 1) : takeS s m = (accS s m 0, 5) := by
  unfold takeS
  rw [if_neg (by rw [hc, h1, h2]; simp), if_neg (by rw [h3]; simp), if_pos h4]
theorem take_same {s : SSt} {m : Msg} (hc : chkM m = 0) (h1 : m.pub = s.pub) (h2 : m.rev = s.rev) (h3 : s.known = true) (h4 : ¬ s.left < 1) (h5 : m.state = s.state) (h6 : 0 ≤ s.seq) (h7 : s.seq < m.seq) (h8 : m.seq ≤ 1000000000) (h9 : m.test = s.test) (h10 : m.vals = s.vals) : takeS s m = (accS s m (m.seq - s.seq - 1), 3) := by
  have d := dist_small (a := s.seq) (b := m.seq) (by omega) (by omega) (by omega) (by omega)
  unfold takeS
  rw [if_neg (by rw [hc, h1, h2]; simp), if_neg (by rw [h3]; simp), if_neg h4, if_pos h5, if_pos ⟨d.1.2 h7, h9, h10⟩, d.2 h7]
theorem take_next {s : SSt} {m : Msg} (hc : chkM m = 0) (h1 : m.pub = s.pub) (h2 : m.rev = s.rev) (h3 : s.known = true) (h4 : ¬ s.left < 1) (h5 : 0 ≤ s.state) (h6 : s.state < m.state) (h7 : m.state ≤ 1000000000) : takeS s m = (accS s m (m.state - s.state - 1 + m.seq), 2) := by
  have d := dist_small (a := s.state) (b := m.state) (by omega) (by omega) (by omega) (by omega)
  unfold takeS
  rw [if_neg (by rw [hc, h1, h2]; simp), if_neg (by rw [h3]; simp), if_neg h4, if_neg (by omega), if_pos (d.1.2 h6), d.2 h6]
theorem tick_pos {s : SSt} (h : 0 < s.left) : tickS s = { s with left := s.left - 1 } := by unfold tickS; rw [if_pos h]
/-- Behind the first message, with all messages heard and none lost. -/
def Frel (N : Int) (p : PSt) (s : SSt) : Prop := Good 3 4 N p ∧ s.lost = 0 ∧ ((p.started = false ∧ s = newSub 3 4) ∨ (p.started = true ∧ Near p s))
/-- The message that a publisher has sent last is fine. -/
theorem msg_fine {N : Int} {s : PSt} (hN : N ≤ 4294967295) (h : Good 3 4 N s) (hs : s.started = true) : chkM ⟨s.pub, 3 * s.gap + 1, s.sec, s.frac, s.qual, s.state, s.seq, false, s.rev, s.vals⟩ = 0 := by
  have h1 := cur_ok (by omega) (by omega) hN h hs
  have h2 := h.bnd
  unfold curS at h1
  rwa [bnd_in (n := s.gap) (by omega) (by omega)] at h1
theorem follow {N : Int} {p : PSt} {s : SSt} {L : List Val} (hN : 0 ≤ N ∧ N ≤ 100000) (hv : vErr L = 0) (hl : L.length ≤ 24) (h : Frel N p s) :
    Frel (N + 1) (sendPS p s L false).1 (sendPS p s L false).2 ∧ (sendPS p s L false).1.started = true ∧ (sendPS p s L false).1.vals = L := by
  obtain ⟨hG, hlo, h⟩ := h
  have hb := hG.bnd
  have f1 := hG.f1
  have f2 := hG.f2
  have f3 := hG.f3
  by_cases hd1 : dueS p L = 1
  · obtain ⟨e1, hG1⟩ := step_change (a := 0) (b := 0) (c := 0) (by omega) (by omega) (by omega) hG (by rfl) hv hl hd1
    have hck := msg_fine (by omega) hG1 rfl
    simp only at hck
    unfold sendPS
    rw [e1]
    simp only
    rw [if_neg (by simp)]
    refine ⟨?_, by first | rfl | trivial, by first | rfl | trivial⟩
    have e3 : p.pub = 3 := hG.pub
    have e4 : p.rev = 4 := hG.rev
    rcases h with ⟨hs, rfl⟩ | ⟨hs, hn⟩
    · have ht : tickS (newSub 3 4) = newSub 3 4 := by decide +kernel
      rw [ht, take_new hck (by simp only [newSub]; exact e3) (by simp only [newSub]; exact e4) rfl]
      refine ⟨hG1, by simp only [accS, newSub]; decide +kernel, .inr ⟨rfl, ⟨rfl, rfl, rfl, rfl, rfl, rfl, rfl, by simp only [accS]; omega⟩⟩⟩
    · have ho := hG.on hs
      have hlf := hn.left
      have h1 := hn.pub
      have h2 := hn.rev
      have h4 := hn.state
      rw [tick_pos (by omega), take_next (s := { s with left := s.left - 1 }) hck (by first | omega | (dsimp only; omega)) (by first | omega | (dsimp only; omega)) hn.kn (by first | omega | (dsimp only; omega)) (by first | omega | (dsimp only; omega)) (by first | omega | (dsimp only; omega)) (by first | omega | (dsimp only; omega))]
      refine ⟨hG1, ?_, .inr ⟨rfl, ⟨hn.pub, hn.rev, rfl, rfl, rfl, rfl, rfl, by simp only [accS]; omega⟩⟩⟩
      simp only [accS, hlo, h4]
      unfold raiseS
      rw [if_neg (by omega)]
      omega
  · obtain ⟨hs, hvv⟩ := due_other hd1
    have hd := due_two hs hvv
    rcases h with ⟨hs', _⟩ | ⟨_, hn⟩
    · rw [hs] at hs'; cases hs'
    have ho := hG.on hs
    have hlf := hn.left
    have h1 := hn.pub
    have h2 := hn.rev
    have h4 := hn.state
    have h5 := hn.seq
    have e3 : p.pub = 3 := hG.pub
    have e4 : p.rev = 4 := hG.rev
    by_cases hdue : p.since + 1 = p.gap
    · rw [if_pos hdue] at hd
      obtain ⟨e1, hG1⟩ := step_repeat (a := 0) (b := 0) (c := 0) (by omega) (by omega) (by omega) hG hd
      have hck := msg_fine (by omega) hG1 hs
      simp only at hck
      unfold sendPS
      rw [e1]
      simp only
      rw [if_neg (by simp)]
      refine ⟨?_, by first | exact hs | trivial, by first | exact hvv.symm | trivial⟩
      rw [tick_pos (by omega), take_same (s := { s with left := s.left - 1 }) hck (by first | omega | (dsimp only; omega)) (by first | omega | (dsimp only; omega)) hn.kn (by first | omega | (dsimp only; omega)) (by first | omega | (dsimp only; omega)) (by first | omega | (dsimp only; omega)) (by first | omega | (dsimp only; omega)) (by first | omega | (dsimp only; omega)) hn.test.symm hn.vals.symm]
      refine ⟨hG1, ?_, .inr ⟨hs, ⟨hn.pub, hn.rev, rfl, rfl, rfl, rfl, rfl, by simp only [accS]; omega⟩⟩⟩
      simp only [accS, hlo, h5]
      unfold raiseS
      rw [if_neg (by omega)]
      omega
    · rw [if_neg hdue] at hd
      obtain ⟨e1, hG1⟩ := step_still (a := 0) (b := 0) (c := 0) hG hd
      unfold sendPS
      rw [e1]
      simp only
      refine ⟨?_, by first | exact hs | trivial, by first | exact hvv.symm | trivial⟩
      rw [tick_pos (by omega)]
      exact ⟨hG1, hlo, .inr ⟨hs, ⟨hn.pub, hn.rev, hn.kn, hn.state, hn.seq, hn.test, hn.vals, by simp only; omega⟩⟩⟩
theorem near_valid {N : Int} {p : PSt} {s : SSt} (hG : Good 3 4 N p) (hs : p.started = true) (hn : Near p s) : validS s = true := by
  have ho := hG.on hs
  have hlf := hn.left
  unfold validS
  rw [hn.kn, hn.test]
  simp only [Bool.true_and, Bool.not_false, Bool.and_true, decide_eq_true_eq]
  omega
end Go.Proofs.Ytopmhaebjpmbfaa
