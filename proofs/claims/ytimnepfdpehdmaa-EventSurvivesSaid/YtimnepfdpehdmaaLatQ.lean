/- What the publisher of the top sends, and what a station holds at the end: plain laws. -/
import Derived.Test.YtimnepfdpehdmaaLatP
namespace Go.Proofs.Ytimnepfdpehdmaa
open Go.RowKit

/-! ### The messages can be encoded -/
theorem cnt_vals8 (m : Nat) : ∀ (l : List Val), (∀ x ∈ l, (datV x).length ≤ 8) → cntS (cntN m) (l.map (nodeV m)) ≤ 9 * l.length
  | [], _ => by simp [cntS]
  | x :: l, h => by
    have ih := cnt_vals8 m l fun y hy => h y (by simp [hy])
    have h3 := h x (by simp)
    have h4 : cntN m [] = 0 := by cases m <;> rfl
    simp only [cntS, List.map_cons, List.length_cons, List.length_map, List.sum_cons, nodeV, h4, List.map_map] at ih ⊢
    have e : ((fun x : NodeOf (Nd m) => x.2.1.length + cntN m x.2.2) ∘ nodeV m) = fun x => (datV x).length := by
      funext y; simp [nodeV, h4]
    simp only [e] at ih ⊢
    omega
theorem dat_int (n : Int) : (datV ⟨2, n, ⟨#[]⟩, 0, 0, 0⟩).length ≤ 8 := by
  unfold datV
  rw [if_neg (by simp), if_pos rfl, numB_len]
  exact (intLen_le n).2
theorem dat_tru (b : Bool) : (datV (tru b)).length ≤ 8 := by
  unfold datV tru
  rw [if_pos rfl, numB_len]
  omega
theorem dat_time (a b c : Int) : (datV ⟨5, 0, ⟨#[]⟩, a, b, c⟩).length ≤ 8 := by
  unfold datV
  rw [if_neg (by simp), if_neg (by simp), if_neg (by simp), if_neg (by simp)]
  simp [numB_len]
theorem dat_head (m : Msg) : ∀ x ∈ headM m, (datV x).length ≤ 8 := by
  intro x hx
  simp only [headM, List.mem_cons, List.not_mem_nil, or_false] at hx
  rcases hx with rfl | rfl | rfl | rfl | rfl | rfl | rfl
  · exact dat_int _
  · exact dat_int _
  · exact dat_time _ _ _
  · exact dat_int _
  · exact dat_int _
  · exact dat_tru _
  · exact dat_int _
theorem valsI_ways (n : Int) : valsI n = V0 ∨ valsI n = V1 ∨ valsI n = V2 := by
  unfold valsI
  split
  · exact .inl rfl
  · split
    · exact .inr (.inl rfl)
    · exact .inr (.inr rfl)
theorem dat_vals (n : Int) : (∀ x ∈ valsI n, (datV x).length ≤ 8 ∧ inN x) ∧ (valsI n).length ≤ 2 ∧ vErr (valsI n) = 0 := by
  rcases valsI_ways n with h | h | h
  · rw [h]
    refine ⟨fun x hx => ?_, by decide, by decide +kernel⟩
    simp only [V0, List.mem_singleton] at hx
    subst hx
    exact ⟨by decide +kernel, by unfold inN; simp⟩
  · rw [h]
    refine ⟨fun x hx => ?_, by decide, by decide +kernel⟩
    simp only [V1, List.mem_cons, List.not_mem_nil, or_false] at hx
    rcases hx with rfl | rfl
    · exact ⟨by decide +kernel, by unfold inN; simp⟩
    · exact ⟨by decide +kernel, by unfold inN; simp⟩
  · rw [h]
    refine ⟨fun x hx => ?_, by decide, by decide +kernel⟩
    simp only [V2, List.mem_singleton] at hx
    subst hx
    exact ⟨by decide +kernel, by unfold inN; simp⟩
theorem enc_fine {m : Msg} {n : Int} (hc : chkM m = 0) (hv : m.vals = valsI n) : encME m = 0 := by
  obtain ⟨h1, h2, h3⟩ := dat_vals n
  have e0 : cntN 3 [nodeM m] = 1 + cntN 2 (kidsM m) := by
    show cntS (cntN 2) [nodeM m] = _
    simp [cntS, nodeM]
  have e1 : cntN 2 (kidsM m) = cntS (cntN 1) (kidsM m) := rfl
  have e2 := cnt_vals8 1 (headM m) (dat_head m)
  have e3 := cnt_vals8 0 m.vals (by rw [hv]; exact fun x hx => (h1 x hx).1)
  have e4 : cntS (cntN 1) [((167, [], m.vals.map (nodeV 0)) : NodeOf (Nd 1))] = 1 + cntN 1 (m.vals.map (nodeV 0)) := by simp [cntS]
  have e5 : cntN 1 (m.vals.map (nodeV 0)) = cntS (cntN 0) (m.vals.map (nodeV 0)) := rfl
  have e6 : (headM m).length = 7 := rfl
  have e7 : cntN 3 [nodeM m] ≤ 100 := by
    rw [hv] at e3 e5 e4
    rw [e0, e1, kidsM, cnt_append, cnt_reTag, hv, e4, e5]
    omega
  have hz := szN_le 3 [nodeM m]
  unfold encME
  rw [if_pos hc]
  unfold encErr
  rw [if_pos (chk_msg m), if_pos (by omega)]
theorem encMB_len {m : Msg} (hc : chkM m = 0) (he : encME m = 0) : (encMB m).length ≤ 1500 := by
  obtain ⟨h1, h2⟩ := encMB_some m hc he
  rw [h1]
  have := encN_len 3 [nodeM m]
  omega

/-! ### The publisher -/
structure Pinv (c : Int) (p : PSt) (H : List Snt) : Prop where
  good : Good 5 77 (c + 1) p
  f : p.first = 2
  mx : p.max = 9
  row : Row1 c H
  off : p.started = false → H = [] ∧ c = -1
  on : p.started = true → 2 ≤ p.gap ∧ ∃ s, H[H.length - 1]? = some s ∧ s.m.state = p.state ∧ s.m.seq = p.seq ∧ s.m.vals = p.vals ∧ s.m.ttl = 3 * p.gap + 1 ∧ s.t = c - p.since
  vk : p.started = true → ∃ n, p.vals = valsI n
theorem Pinv.new : Pinv (-1) (newS 5 2 9 77) [] := ⟨Good.new (by omega) (by omega) (by omega), rfl, rfl, Row1.nil _, fun _ => ⟨rfl, rfl⟩, fun h => (by cases h), fun h => (by cases h)⟩
theorem msg_fineT {N : Int} {s : PSt} (hN : N ≤ 4294967295) (h : Good 5 77 N s) (hs : s.started = true) : chkM ⟨s.pub, 3 * s.gap + 1, s.sec, s.frac, s.qual, s.state, s.seq, false, s.rev, s.vals⟩ = 0 := by
  have h1 := cur_ok (by omega) (by omega) hN h hs
  have h2 := h.bnd
  unfold curS at h1
  rwa [bnd_in (n := s.gap) (by omega) (by omega)] at h1
theorem last_snoc {α : Type} (H : List α) (x : α) : (H ++ [x])[(H ++ [x]).length - 1]? = some x := by simp
theorem Pinv.step {c : Int} {p : PSt} {H : List Snt} (hc : -1 ≤ c ∧ c ≤ 900) (h : Pinv c p H) (n a b d : Int) (ht : stErr a b d = 0) :
    (stepS p (valsI n) a b d).1.vals = valsI n ∧ (stepS p (valsI n) a b d).1.started = true ∧
    (((stepS p (valsI n) a b d).2 = [] ∧ Pinv (c + 1) (stepS p (valsI n) a b d).1 H) ∨
     ∃ m, (stepS p (valsI n) a b d).2 = [m] ∧ m.vals = valsI n ∧ Fine m ∧ Pinv (c + 1) (stepS p (valsI n) a b d).1 (H ++ [⟨m, c + 1⟩])) := by
  obtain ⟨hv1, hv2, hv3⟩ := dat_vals n
  have hG := h.good
  have f1 := h.f
  have f2 := h.mx
  have e5 : p.pub = 5 := hG.pub
  have e7 : p.rev = 77 := hG.rev
  by_cases hd1 : dueS p (valsI n) = 1
  · obtain ⟨e1, hG1⟩ := step_change (a := a) (b := b) (c := d) (by omega) (by omega) (by omega) hG ht hv3 (by omega) hd1
    have hck := msg_fineT (by omega) hG1 rfl
    simp only at hck
    have hon := hG1.on rfl
    simp only at hon
    rw [e1]
    have hfi : Fine ⟨p.pub, 3 * p.first + 1, a, b, d, p.state + 1, 0, false, p.rev, valsI n⟩ := ⟨hck, enc_fine hck (n := n) rfl, fun x hx => (hv1 x hx).2, e5, e7, rfl, by simp only; omega, by simp only; omega, by simp only; omega⟩
    refine ⟨rfl, rfl, .inr ⟨_, rfl, rfl, hfi, ?_⟩⟩
    refine ⟨hG1, f1, f2, h.row.snoc hfi (by omega) (fun hH => ?_) (fun s0 hs0 => ?_), fun h => (by cases h), fun _ => ⟨by simp only; omega, ⟨_, last_snoc H _, rfl, rfl, rfl, by simp only, by simp only; omega⟩⟩, fun _ => ⟨n, rfl⟩⟩
    · cases hs : p.started
      · have := (h.off hs).2; omega
      · obtain ⟨_, s, hs2, _⟩ := h.on hs
        rw [hH] at hs2; simp at hs2
    · cases hs : p.started
      · rw [(h.off hs).1] at hs0; simp at hs0
      · obtain ⟨g2, s, hs2, k1, k2, k3, k4, k5⟩ := h.on hs
        rw [hs0] at hs2
        injection hs2 with hs2
        subst hs2
        have ho := hG.on hs
        exact ⟨.inl (by simp only; omega), by simp only; omega, by simp only; omega⟩
  · obtain ⟨hs, hvv⟩ := due_other hd1
    have hd := due_two hs hvv
    have ho := hG.on hs
    obtain ⟨g2, s, hs2, k1, k2, k3, k4, k5⟩ := h.on hs
    by_cases hd2 : dueS p (valsI n) = 2
    · obtain ⟨e1, hG1⟩ := step_repeat (a := a) (b := b) (c := d) (by omega) (by omega) (by omega) hG hd2
      have hck := msg_fineT (by omega) hG1 hs
      simp only at hck
      have hon := hG1.on hs
      simp only at hon
      rw [hd2] at hd
      have hsg : p.since + 1 = p.gap := by
        by_cases hh : p.since + 1 = p.gap
        · exact hh
        · rw [if_neg hh] at hd; cases hd
      rw [e1]
      have hfi : Fine ⟨p.pub, 3 * (min (2 * p.gap) p.max) + 1, p.sec, p.frac, p.qual, p.state, p.seq + 1, false, p.rev, p.vals⟩ := ⟨hck, enc_fine hck (n := n) hvv.symm, fun x hx => (hv1 x (by rw [hvv]; exact hx)).2, e5, e7, rfl, by simp only; omega, by simp only; omega, by simp only; omega⟩
      refine ⟨hvv.symm, hs, .inr ⟨_, rfl, hvv.symm, hfi, ?_⟩⟩
      refine ⟨hG1, f1, f2, h.row.snoc hfi (by omega) (fun hH => ?_) (fun s0 hs0 => ?_), fun h => (by simp only at h; rw [hs] at h; cases h), fun _ => ⟨by simp only; omega, ⟨_, last_snoc H _, rfl, rfl, rfl, by simp only, by simp only; omega⟩⟩, fun _ => ⟨n, hvv.symm⟩⟩
      · rw [hH] at hs2; simp at hs2
      · rw [hs0] at hs2
        injection hs2 with hs2
        subst hs2
        exact ⟨.inr ⟨by simp only; omega, by simp only; omega, by simp only; exact k3⟩, by simp only; omega, by simp only; omega⟩
    · have hd0 : dueS p (valsI n) = 0 := by rw [hd] at hd2 ⊢; split at hd2 <;> simp_all
      obtain ⟨e1, hG1⟩ := step_still (a := a) (b := b) (c := d) hG hd0
      rw [e1]
      refine ⟨hvv.symm, hs, .inl ⟨rfl, ?_⟩⟩
      exact ⟨hG1, f1, f2, h.row.mono (by omega), fun h => (by simp only at h; rw [hs] at h; cases h), fun _ => ⟨g2, s, hs2, k1, k2, k3, k4, by simp only; omega⟩, fun _ => ⟨n, hvv.symm⟩⟩
/-- At the end the station has the present values. -/
theorem end_ok {src st K n D : Int} {p : PSt} {H : List Snt} {g : Nat → Bool} {x : St} {L : List Val} (hP : Pinv K p H) (hS : StInv src st K H g x) (hA : ∀ (f : Nat) s, H[f]? = some s → s.t + D ≤ K → g f = true) (hD : D ≤ 5)
    (hV : ∀ s ∈ H, n ≤ s.t + 1 → s.m.vals = L) (hn : 0 ≤ n) (hK : K = n + 29) : validS x.sub = true ∧ x.sub.vals = L := by
  have hst : p.started = true := by
    cases hs : p.started
    · have := (hP.off hs).2; omega
    · rfl
  obtain ⟨g2, sl, hsl, _, _, _, kt, ks⟩ := hP.on hst
  have ho := hP.good.on hst
  have hmx := hP.mx
  have hpos : 0 < H.length := by have := get_lt hsl; omega
  obtain ⟨s0, hs0⟩ : ∃ s, H[0]? = some s := ⟨_, List.getElem?_eq_getElem hpos⟩
  have h0 := hP.row.fst s0 hs0
  have hg0 := hA 0 s0 hs0 (by omega)
  rcases hS.sub with ⟨h1, _⟩ | ⟨top, s, h1, h2, h3, h4⟩
  · rw [h1 0] at hg0; cases hg0
  · have hfi := (hP.row.fine s (List.mem_of_getElem? h3)).1
    have htl := hfi.tl
    have hlf := h4.left
    have hkey : 1 ≤ x.sub.left ∧ n ≤ s.t + 1 := by
      by_cases hlast : top + 1 < H.length
      · obtain ⟨b, hb⟩ : ∃ b, H[top + 1]? = some b := ⟨_, List.getElem?_eq_getElem hlast⟩
        obtain ⟨_, hn2, hn3⟩ := hP.row.nxt top s b h3 hb
        have hbt : ¬ (b.t + D ≤ K) := fun hh => by
          have := h2 _ (hA _ b hb hh)
          omega
        omega
      · have : top = H.length - 1 := by have := get_lt h3; omega
        rw [this] at h3
        rw [h3] at hsl
        injection hsl with hsl
        subst hsl
        omega
    refine ⟨?_, by rw [h4.vals]; exact hV s (List.mem_of_getElem? h3) hkey.2⟩
    unfold validS
    rw [h4.kn, h4.test, decide_eq_true (show 0 < x.sub.left by omega)]
    rfl
end Go.Proofs.Ytimnepfdpehdmaa
