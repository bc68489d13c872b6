/- A publisher and a subscriber that hears some of its messages: the plain law of layer 14. -/
import Derived.Test.YtopmhaebjpmbfaaSendP
import Derived.Test.YtopmhaebjpmbfaaSubN
namespace Go.Proofs.Ytopmhaebjpmbfaa
open Go.RowKit

structure Crel (N : Int) (p : PSt) (s : SSt) : Prop where
  good : Good 3 4 N p
  m8 : p.max ≤ 8
  pub : s.pub = 3
  rev : s.rev = 4
  vl : s.vals.length ≤ 24
  o0 : 0 ≤ s.lost
  o1 : s.lost ≤ 1000000
  l0 : 0 ≤ s.left
  l1 : s.left ≤ 25
  test : s.test = false
  kn : s.known = true → p.started = true ∧ 1 ≤ s.state ∧ s.state ≤ p.state ∧ 0 ≤ s.seq ∧ s.seq ≤ N ∧ (s.state = p.state → s.vals = p.vals ∧ s.seq ≤ p.seq)
theorem crel_new (M : Int) (h1 : 2 ≤ M) (h2 : M ≤ 8) : Crel 0 (newS 3 2 M 4) (newSub 3 4) :=
  ⟨Good.new (by omega) (by omega) (by omega), h2, rfl, rfl, by decide, by decide, by decide, by decide, by decide, rfl, fun h => by cases h⟩
theorem crel_tick {N : Int} {p : PSt} {s : SSt} (h : Crel N p s) : Crel N p (tickS s) := by
  unfold tickS
  split
  · exact ⟨h.good, h.m8, h.pub, h.rev, h.vl, h.o0, h.o1, by have := h.l0; dsimp only; omega, by have := h.l1; dsimp only; omega, h.test, h.kn⟩
  · exact h
/-- A fine message that is newer is accepted. -/
theorem take_acc {N : Int} {p : PSt} {s : SSt} {m : Msg} (h : Crel N p s) (_hN : N ≤ 100000) (hc : chkM m = 0) (h1 : m.pub = 3) (h2 : m.rev = 4) (ht : m.test = false) (hq : 0 ≤ m.seq) (hq2 : m.seq ≤ 1000000) (hst : m.state ≤ 1000000)
    (hn : s.known = true → s.state ≤ m.state ∧ (m.state = s.state → s.seq < m.seq ∧ m.vals = s.vals)) : ∃ k, 0 ≤ k ∧ (takeS s m).1 = accS s m k := by
  have e1 := h.pub
  have e2 := h.rev
  cases hk : s.known
  · exact ⟨0, by omega, by rw [take_new hc (by omega) (by omega) hk]⟩
  · obtain ⟨k1, k2, k3, k4, k5, _⟩ := h.kn hk
    obtain ⟨n1, n2⟩ := hn hk
    by_cases hl : s.left < 1
    · exact ⟨0, by omega, by rw [take_dead hc (by omega) (by omega) hk hl]⟩
    · by_cases he : m.state = s.state
      · obtain ⟨n3, n4⟩ := n2 he
        exact ⟨m.seq - s.seq - 1, by omega, by rw [take_same hc (by omega) (by omega) hk hl he k4 n3 (by omega) (by rw [ht, h.test]) n4]⟩
      · exact ⟨m.state - s.state - 1 + m.seq, by omega, by rw [take_next hc (by omega) (by omega) hk hl (by omega) (by omega) (by omega)]⟩
theorem near_acc {q : PSt} {s : SSt} {k N : Int} {m : Msg} (hG : Good 3 4 N q) (hs : q.started = true) (h8 : q.max ≤ 8) (e1 : s.pub = 3) (e2 : s.rev = 4) (o0 : 0 ≤ s.lost) (o1 : s.lost ≤ 1000000) (hk : 0 ≤ k)
    (hm : m = ⟨q.pub, 3 * q.gap + 1, q.sec, q.frac, q.qual, q.state, q.seq, false, q.rev, q.vals⟩) (h0 : q.since = 0) : Near q (accS s m k) ∧ Crel N q (accS s m k) := by
  subst hm
  have ho := hG.on hs
  have hr := raise_le o0 o1 hk
  have hvl := hG.vl
  exact ⟨⟨e1, e2, rfl, rfl, rfl, rfl, rfl, by dsimp only [accS]; omega⟩, ⟨hG, h8, e1, e2, hvl, hr.1, hr.2, by dsimp only [accS]; omega, by dsimp only [accS]; omega, rfl, fun _ => ⟨hs, by dsimp only [accS]; omega, by dsimp only [accS]; omega, by dsimp only [accS]; omega, by dsimp only [accS]; omega, fun _ => ⟨rfl, by dsimp only [accS]; omega⟩⟩⟩⟩
theorem crel_step {N : Int} {p : PSt} {s : SSt} {L : List Val} (b : Bool) (hN : 0 ≤ N ∧ N ≤ 90000) (hv : vErr L = 0) (hl : L.length ≤ 24) (h : Crel N p s) :
    Crel (N + 1) (sendPS p s L b).1 (sendPS p s L b).2 ∧ (sendPS p s L b).1.started = true ∧ (sendPS p s L b).1.vals = L ∧
      (b = false → (Near p s ∧ p.started = true ∧ p.vals = L → Near (sendPS p s L b).1 (sendPS p s L b).2) ∧ (Near (sendPS p s L b).1 (sendPS p s L b).2 ∨ (sendPS p s L b).1.since = p.since + 1)) := by
  have hG := h.good
  have hb := hG.bnd
  have f1 := hG.f1
  have f2 := hG.f2
  have f3 := hG.f3
  have e3 : p.pub = 3 := hG.pub
  have e4 : p.rev = 4 := hG.rev
  have hT := crel_tick h
  have hps : 0 ≤ p.state ∧ p.state ≤ N ∧ 0 ≤ p.seq ∧ p.seq ≤ N := by
    cases hs : p.started
    · have := hG.off hs; omega
    · have := hG.on hs; omega
  by_cases hd1 : dueS p L = 1
  · obtain ⟨e1, hG1⟩ := step_change (a := 0) (b := 0) (c := 0) (by omega) (by omega) (by omega) hG (by rfl) hv hl hd1
    have hck := msg_fine (by omega) hG1 rfl
    dsimp only at hck
    have hon := hG1.on rfl
    unfold sendPS
    rw [e1]
    dsimp only
    cases b
    · rw [if_neg (by simp)]
      obtain ⟨k, hk, hacc⟩ := take_acc (m := ⟨p.pub, 3 * p.first + 1, 0, 0, 0, p.state + 1, 0, false, p.rev, L⟩) hT (by omega) hck e3 e4 rfl (by dsimp only; omega) (by dsimp only; omega) (by dsimp only; omega)
        (fun hkn => ⟨by have := (hT.kn hkn).2.2.1; dsimp only; omega, fun he => by have := (hT.kn hkn).2.2.1; dsimp only at he; omega⟩)
      rw [hacc]
      obtain ⟨n1, n2⟩ := near_acc hG1 rfl h.m8 hT.pub hT.rev hT.o0 hT.o1 hk rfl rfl
      exact ⟨n2, rfl, rfl, fun _ => ⟨fun _ => n1, .inl n1⟩⟩
    · rw [if_pos rfl]
      refine ⟨⟨hG1, h.m8, hT.pub, hT.rev, hT.vl, hT.o0, hT.o1, hT.l0, hT.l1, hT.test, fun hkn => ?_⟩, rfl, rfl, fun h => by cases h⟩
      obtain ⟨k1, k2, k3, k4, k5, k6⟩ := hT.kn hkn
      exact ⟨rfl, k2, by dsimp only; omega, k4, by omega, fun he => by dsimp only at he; omega⟩
  · obtain ⟨hs, hvv⟩ := due_other hd1
    have hd := due_two hs hvv
    have ho := hG.on hs
    by_cases hdue : p.since + 1 = p.gap
    · rw [if_pos hdue] at hd
      obtain ⟨e1, hG1⟩ := step_repeat (a := 0) (b := 0) (c := 0) (by omega) (by omega) (by omega) hG hd
      have hck := msg_fine (by omega) hG1 hs
      dsimp only at hck
      unfold sendPS
      rw [e1]
      dsimp only
      cases b
      · rw [if_neg (by simp)]
        obtain ⟨k, hk, hacc⟩ := take_acc (m := ⟨p.pub, 3 * (min (2 * p.gap) p.max) + 1, p.sec, p.frac, p.qual, p.state, p.seq + 1, false, p.rev, p.vals⟩) hT (by omega) hck e3 e4 rfl (by dsimp only; omega) (by dsimp only; omega) (by dsimp only; omega)
          (fun hkn => ⟨(hT.kn hkn).2.2.1, fun he => by
            obtain ⟨k1, k2, k3, k4, k5, k6⟩ := hT.kn hkn
            have := k6 he.symm
            exact ⟨by dsimp only; omega, this.1.symm⟩⟩)
        rw [hacc]
        obtain ⟨n1, n2⟩ := near_acc hG1 hs h.m8 hT.pub hT.rev hT.o0 hT.o1 hk rfl rfl
        exact ⟨n2, hs, hvv.symm, fun _ => ⟨fun _ => n1, .inl n1⟩⟩
      · rw [if_pos rfl]
        refine ⟨⟨hG1, h.m8, hT.pub, hT.rev, hT.vl, hT.o0, hT.o1, hT.l0, hT.l1, hT.test, fun hkn => ?_⟩, hs, hvv.symm, fun h => by cases h⟩
        obtain ⟨k1, k2, k3, k4, k5, k6⟩ := hT.kn hkn
        exact ⟨k1, k2, k3, k4, by omega, fun he => ⟨(k6 he).1, by have := (k6 he).2; dsimp only; omega⟩⟩
    · rw [if_neg hdue] at hd
      obtain ⟨e1, hG1⟩ := step_still (a := 0) (b := 0) (c := 0) hG hd
      unfold sendPS
      rw [e1]
      dsimp only
      refine ⟨⟨hG1, h.m8, hT.pub, hT.rev, hT.vl, hT.o0, hT.o1, hT.l0, hT.l1, hT.test, fun hkn => ?_⟩, hs, hvv.symm, fun _ => ⟨fun hn => ?_, .inr rfl⟩⟩
      · obtain ⟨k1, k2, k3, k4, k5, k6⟩ := hT.kn hkn
        exact ⟨k1, k2, k3, k4, by omega, k6⟩
      · obtain ⟨hn, _, _⟩ := hn
        have hlf := hn.left
        rw [tick_pos (by omega)]
        exact ⟨hn.pub, hn.rev, hn.kn, hn.state, hn.seq, hn.test, hn.vals, by dsimp only; omega⟩
end Go.Proofs.Ytopmhaebjpmbfaa
