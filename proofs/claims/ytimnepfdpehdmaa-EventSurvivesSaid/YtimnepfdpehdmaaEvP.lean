/- What a station of the rings holds that has every message: plain laws of the top. -/
import Derived.Test.YtimnepfdpehdmaaLatQ
namespace Go.Proofs.Ytimnepfdpehdmaa
open Go.RowKit

/-- b is the message behind a. -/
def Succ1 (a b : Msg) : Prop := (b.state = a.state + 1 ∧ b.seq = 0) ∨ (b.state = a.state ∧ b.seq = a.seq + 1 ∧ b.vals = a.vals)
theorem Pinv.succ {c : Int} {p : PSt} {H : List Snt} (hc : -1 ≤ c ∧ c ≤ 900) (h : Pinv c p H) (n a b d : Int) (ht : stErr a b d = 0) {m : Msg} (hm : (stepS p (valsI n) a b d).2 = [m]) : ∀ s, H[H.length - 1]? = some s → Succ1 s.m m := by
  obtain ⟨hv1, hv2, hv3⟩ := dat_vals n
  have hG := h.good
  have f1 := h.f
  have f2 := h.mx
  intro s0 hs0
  have hs : p.started = true := by
    cases hs : p.started
    · rw [(h.off hs).1] at hs0; simp at hs0
    · rfl
  obtain ⟨g2, s, hs2, k1, k2, k3, k4, k5⟩ := h.on hs
  rw [hs0] at hs2
  injection hs2 with hs2
  subst hs2
  by_cases hd1 : dueS p (valsI n) = 1
  · obtain ⟨e1, hG1⟩ := step_change (a := a) (b := b) (c := d) (by omega) (by omega) (by omega) hG ht hv3 (by omega) hd1
    rw [e1] at hm
    simp only [List.cons.injEq, and_true] at hm
    subst hm
    exact .inl ⟨by simp only; omega, rfl⟩
  · obtain ⟨_, hvv⟩ := due_other hd1
    have hd := due_two hs hvv
    by_cases hd2 : dueS p (valsI n) = 2
    · obtain ⟨e1, hG1⟩ := step_repeat (a := a) (b := b) (c := d) (by omega) (by omega) (by omega) hG hd2
      rw [e1] at hm
      simp only [List.cons.injEq, and_true] at hm
      subst hm
      exact .inr ⟨by simp only; omega, by simp only; omega, by simp only; exact k3.symm⟩
    · have hd0 : dueS p (valsI n) = 0 := by rw [hd] at hd2 ⊢; split at hd2 <;> simp_all
      obtain ⟨e1, hG1⟩ := step_still (a := a) (b := b) (c := d) hG hd0
      rw [e1] at hm
      cases hm
theorem take_next {c : Int} {u : SSt} {s0 s : Snt} (h : SubIs c u s0) (h0 : Fine s0.m) (hf : Fine s.m) (ho : Succ1 s0.m s.m) : (takeS u s.m).1 = accS u s.m 0 := by
  have e1 := h.state
  have e2 := h.seq
  have f1 := h0.st
  have f2 := h0.sq
  have f3 := hf.st
  have f4 := hf.sq
  have d1 := dist_small (a := u.seq) (b := s.m.seq) (by omega) (by omega) (by omega) (by omega)
  have d2 := dist_small (a := u.state) (b := s.m.state) (by omega) (by omega) (by omega) (by omega)
  unfold takeS
  rw [if_neg (by rw [hf.chk, hf.pub, hf.rev, h.pub, h.rev]; simp), if_neg (by rw [h.kn]; simp)]
  split
  · rfl
  · rcases ho with ⟨ho, ho2⟩ | ⟨ho1, ho2, ho3⟩
    · rw [if_neg (by omega), if_pos (d2.1.2 (by omega))]
      show accS u s.m _ = _
      congr 1
      have := d2.2 (by omega)
      omega
    · rw [if_pos (by omega), if_pos ⟨d1.1.2 (by omega), by rw [hf.test, h.test], by rw [h.vals, ho3]⟩]
      show accS u s.m _ = _
      congr 1
      have := d1.2 (by omega)
      omega

/-- A station that has the first n of the messages H, and has lost none. -/
structure Rcv (src c : Int) (H : List Snt) (n : Nat) (x : St) : Prop where
  inv : StInv src 65530 c H (fun j => decide (j < n)) x
  lo : x.sub.lost = 0
theorem Rcv.new (src c : Int) : Rcv src c [] 0 ⟨[], newSub 5 77⟩ := ⟨(StInv.new src 65530 c []).congr (fun j => by simp), rfl⟩
theorem Rcv.tick {src c : Int} {H : List Snt} {n : Nat} {x : St} (h : Rcv src c H n x) : Rcv src (c + 1) H n ⟨x.box, tickS x.sub⟩ := by
  refine ⟨h.inv.tick, ?_⟩
  have := h.lo
  show (tickS x.sub).lost = 0
  unfold tickS
  split
  · exact this
  · exact this
theorem Rcv.snoc {src c : Int} {H : List Snt} {n : Nat} {x : St} (h : Rcv src c H n x) (s : Snt) : Rcv src c (H ++ [s]) n x := ⟨h.inv.snoc s, h.lo⟩
theorem Rcv.take {src c : Int} {H : List Snt} {s : Snt} {n : Nat} {x : St} (hsrc : 0 ≤ src ∧ src ≤ 65535) (hR : Row1 c (H ++ [s])) (ht : s.t = c) (hn : n = H.length ∨ n = H.length + 1) (hS : ∀ a, H[H.length - 1]? = some a → Succ1 a.m s.m) (hl : H.length ≤ 300) (h : Rcv src c (H ++ [s]) n x) :
    Rcv src c (H ++ [s]) (H.length + 1) (takeF src x s.m ((65530 + (H.length : Int)) % 65536)) := by
  have hf : (H ++ [s])[H.length]? = some s := by simp
  have hfi := (hR.fine s (List.mem_of_getElem? hf)).1
  obtain ⟨h1, _⟩ := arrive hsrc hR h.inv hf (by omega) hl
  refine ⟨h1.congr fun j => ?_, ?_⟩
  · rw [Bool.eq_iff_iff]
    simp only [Bool.or_eq_true, decide_eq_true_eq]
    omega
  · obtain ⟨e1, _⟩ := TwinO.step hsrc h.inv.box H.length hl (fun j hj => by simp only [decide_eq_true_eq] at hj; omega)
    unfold takeF
    simp only [e1]
    rcases hn with rfl | rfl
    · simp only [Nat.lt_irrefl, decide_false, Bool.not_false, if_true]
      have hlo := h.lo
      have hz : raiseS x.sub.lost 0 = 0 := by rw [hlo]; decide
      rcases h.inv.sub with ⟨_, h3⟩ | ⟨top, s0, h3, h4, h5, h6⟩
      · have : takeS x.sub s.m = (accS x.sub s.m 0, 1) := by
          unfold takeS
          rw [h3, if_neg (by rw [hfi.chk, hfi.pub, hfi.rev]; simp [newSub]), if_pos (show (newSub 5 77).known = false from rfl)]
        rw [this]
        exact hz
      · simp only [decide_eq_true_eq] at h3 h4
        have htop : top = H.length - 1 := by have := h4 (H.length - 1) (by omega); omega
        rw [List.getElem?_append_left h3, htop] at h5
        have h0 := (hR.fine s0 (by rw [List.mem_append]; exact .inl (List.mem_of_getElem? h5))).1
        rw [take_next h6 h0 hfi (hS s0 h5)]
        exact hz
    · simp only [Nat.lt_succ_self, decide_true, Bool.not_true, Bool.false_eq_true, if_false]
      exact h.lo
/-- Whoever has all has the present values. -/
theorem Rcv.done {src c : Int} {p : PSt} {H : List Snt} {x : St} (hP : Pinv c p H) (hs : p.started = true) (h : Rcv src c H H.length x) : validS x.sub = true ∧ x.sub.vals = p.vals ∧ x.sub.lost = 0 := by
  obtain ⟨g2, s, hsl, k1, k2, k3, k4, k5⟩ := hP.on hs
  have ho := hP.good.on hs
  have hpos := get_lt hsl
  rcases h.inv.sub with ⟨h3, _⟩ | ⟨top, s0, h3, h4, h5, h6⟩
  · have := h3 (H.length - 1)
    simp only [decide_eq_false_iff_not] at this
    omega
  · simp only [decide_eq_true_eq] at h3 h4
    have htop : top = H.length - 1 := by have := h4 (H.length - 1) (by omega); omega
    rw [htop, hsl] at h5
    injection h5 with h5
    subst h5
    have hl := h6.left
    refine ⟨?_, by rw [h6.vals, k3], h.lo⟩
    unfold validS
    rw [h6.kn, h6.test, decide_eq_true (show 0 < x.sub.left by omega)]
    rfl
theorem Rcv.mono {src c : Int} {H : List Snt} {n : Nat} {x : St} (h : Rcv src c H n x) {m : Nat} (e : n = m) : Rcv src c H m x := e ▸ h
end Go.Proofs.Ytimnepfdpehdmaa
