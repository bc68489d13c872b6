/- Plain laws of layer 16: what Accept keeps, and that it drops a number that comes again. -/
import Derived.Test.YtimnepfdpehdmaaTwB
namespace Go.Proofs.Ytimnepfdpehdmaa
open Go.RowKit

theorem accS_cases (l : List Src3) (s q : Int) : (accT l s q = (l, false) ∧ (s < 0 ∨ 65535 < s ∨ q < 0 ∨ 65535 < q)) ∨ ((0 ≤ s ∧ s ≤ 65535 ∧ 0 ≤ q ∧ q ≤ 65535) ∧
    ((∃ i x, l.findIdx? (fun x => decide (x.1 = s)) = some i ∧ l[i]? = some x ∧ x.1 = s ∧ accT l s q = (l.set i (takeT x q).1, (takeT x q).2)) ∨
     (l.findIdx? (fun x => decide (x.1 = s)) = none ∧ ∃ i, i ≤ l.length ∧ (l.findIdx? (fun x => decide (s < x.1))).getD l.length = i ∧ accT l s q = (l.take i ++ (s, q, 1) :: l.drop i, true)))) := by
  by_cases hb : s < 0 ∨ 65535 < s ∨ q < 0 ∨ 65535 < q
  · exact .inl ⟨accS_bad hb, hb⟩
  · have hr : 0 ≤ s ∧ s ≤ 65535 ∧ 0 ≤ q ∧ q ≤ 65535 := by omega
    refine .inr ⟨hr, ?_⟩
    cases hf : l.findIdx? (fun x => decide (x.1 = s)) with
    | some i =>
      obtain ⟨hi, h1, _⟩ := List.findIdx?_eq_some_iff_getElem.1 hf
      have hx : l[i]? = some l[i] := List.getElem?_eq_getElem hi
      exact .inl ⟨i, _, rfl, hx, by simpa using h1, accS_found hr hf hx⟩
    | none =>
      refine .inr ⟨rfl, _, ?_, rfl, accS_new hr hf _ rfl⟩
      cases hg : l.findIdx? (fun x => decide (s < x.1)) with
      | none => simp
      | some j =>
        obtain ⟨hj, _⟩ := List.findIdx?_eq_some_iff_getElem.1 hg
        simp only [Option.getD_some]
        omega
def WfL (l : List Src3) : Prop := ∀ x ∈ l, WfX x
theorem accS_wf {l : List Src3} (h : WfL l) (s q : Int) : WfL (accT l s q).1 ∧ (accT l s q).1.length ≤ l.length + 1 := by
  rcases accS_cases l s q with ⟨e, _⟩ | ⟨hr, ⟨i, x, _, hx, _, e⟩ | ⟨_, i, hi, _, e⟩⟩
  · rw [e]; exact ⟨h, by simp only; omega⟩
  · rw [e]
    refine ⟨fun y hy => ?_, by simp⟩
    rcases List.mem_or_eq_of_mem_set hy with hy | hy
    · exact h y hy
    · rw [hy]; exact takeS_wf x q (h x (List.mem_of_getElem? hx)) hr.2.2.1 hr.2.2.2
  · rw [e]
    refine ⟨fun y hy => ?_, by simp only [List.length_append, List.length_cons, List.length_take, List.length_drop]; omega⟩
    simp only [List.mem_append, List.mem_cons] at hy
    rcases hy with hy | hy | hy
    · exact h y (List.mem_of_mem_take hy)
    · rw [hy]; exact ⟨hr.2.2.1, hr.2.2.2, by simp only; decide⟩
    · exact h y (List.mem_of_mem_drop hy)

/-! ### A number that comes again -/
theorem shr_mod (a k : Nat) : shr64 a k % 2 = (a.testBit k).toNat := by
  unfold shr64
  rw [Nat.testBit, Nat.one_and_eq_mod_two]
  have := Nat.mod_two_eq_zero_or_one (a >>> k)
  rcases this with h | h <;> rw [h] <;> rfl
theorem shl_bit (k : Nat) (hk : k < 64) (j : Nat) : (shl64 1 k).testBit j = decide (k = j) := by
  unfold shl64
  rw [Nat.one_shiftLeft, Nat.mod_eq_of_lt (Nat.pow_lt_pow_right (by decide) hk), Nat.testBit_two_pow]
theorem takeS_again (x : Src3) (q : Int) : takeT (takeT x q).1 q = ((takeT x q).1, false) := by
  have hz : (q - q) % 65536 = 0 := by omega
  unfold takeT
  split
  · rename_i h1
    simp only [hz]
    rw [if_neg (by omega), if_neg]
    intro hh
    have h2 := hh.2
    rw [shr_mod] at h2
    simp at h2
  · rename_i h1
    split
    · rename_i h2
      rw [if_neg]
      intro hh
      have h3 := hh.2
      rw [shr_mod, Nat.testBit_or, shl_bit _ (by omega)] at h3
      simp at h3
    · rfl
/-- The number q of the source s is dropped. -/
def Drops (l : List Src3) (s q : Int) : Prop := (s < 0 ∨ 65535 < s ∨ q < 0 ∨ 65535 < q) ∨ ∃ x, l.find? (fun x => decide (x.1 = s)) = some x ∧ takeT x q = (x, false)
theorem find_of_idx {l : List Src3} {s : Int} {i : Nat} {x : Src3} (hf : l.findIdx? (fun x => decide (x.1 = s)) = some i) (hx : l[i]? = some x) : l.find? (fun x => decide (x.1 = s)) = some x := by
  obtain ⟨hi, h1, h2⟩ := List.findIdx?_eq_some_iff_getElem.1 hf
  rw [List.getElem?_eq_getElem hi] at hx
  injection hx with hx
  subst hx
  exact List.find?_eq_some_iff_getElem.2 ⟨h1, i, hi, rfl, fun j hj => by simpa using h2 j hj⟩
theorem drops_acc {l : List Src3} {s q : Int} (h : Drops l s q) : accT l s q = (l, false) := by
  rcases accS_cases l s q with ⟨e, _⟩ | ⟨hr, ⟨i, x, hf, hx, _, e⟩ | ⟨hf, i, hi, _, e⟩⟩
  · exact e
  · rcases h with h | ⟨y, hy, ht⟩
    · omega
    · rw [find_of_idx hf hx] at hy
      injection hy with hy
      subst hy
      rw [e, ht]
      simp only [Prod.mk.injEq, and_true]
      apply List.ext_getElem?
      intro j
      rw [List.getElem?_set]
      split
      · rename_i hij; subst hij; rw [if_pos (by exact (List.getElem?_eq_some_iff.1 hx).1), hx]
      · rfl
  · rcases h with h | ⟨y, hy, ht⟩
    · omega
    · have := List.findIdx?_eq_none_iff.1 hf y (List.mem_of_find?_eq_some hy)
      have h2 := List.find?_some hy
      rw [this] at h2
      cases h2
theorem find_set {l : List Src3} {s : Int} {i : Nat} {x y : Src3} (hx : l[i]? = some x) (h2 : y.1 = s) : (l.set i y).find? (fun x => decide (x.1 = s)) = (if ∃ j, j < i ∧ ∃ z, l[j]? = some z ∧ z.1 = s then l.find? (fun x => decide (x.1 = s)) else some y) := by
  induction l generalizing i with
  | nil => simp at hx
  | cons z l ih =>
    cases i with
    | zero => simp [h2]
    | succ i =>
      rw [List.set_cons_succ, List.find?_cons, List.find?_cons]
      by_cases hz : z.1 = s
      · simp only [hz, decide_true]
        rw [if_pos ⟨0, by omega, z, rfl, hz⟩]
      · simp only [hz, decide_false]
        rw [ih (by simpa using hx)]
        congr 1
        simp only [eq_iff_iff]
        constructor
        · rintro ⟨j, hj, z', h3, h4⟩
          exact ⟨j + 1, by omega, z', by simpa using h3, h4⟩
        · rintro ⟨j, hj, z', h3, h4⟩
          cases j with
          | zero => simp at h3; subst h3; exact absurd h4 hz
          | succ j => exact ⟨j, by omega, z', by simpa using h3, h4⟩
theorem find_set_ne {l : List Src3} {s : Int} {i : Nat} {x y : Src3} (hx : l[i]? = some x) (h1 : x.1 ≠ s) (h2 : y.1 ≠ s) : (l.set i y).find? (fun x => decide (x.1 = s)) = l.find? (fun x => decide (x.1 = s)) := by
  induction l generalizing i with
  | nil => simp at hx
  | cons z l ih =>
    cases i with
    | zero =>
      simp at hx
      subst hx
      simp [h1, h2]
    | succ i =>
      rw [List.set_cons_succ, List.find?_cons, List.find?_cons, ih (by simpa using hx)]
theorem find_ins_ne {l : List Src3} {s : Int} (i : Nat) {y : Src3} (h2 : y.1 ≠ s) : (l.take i ++ y :: l.drop i).find? (fun x => decide (x.1 = s)) = l.find? (fun x => decide (x.1 = s)) := by
  conv => rhs; rw [← List.take_append_drop i l]
  rw [List.find?_append, List.find?_append, List.find?_cons]
  simp [h2]
theorem drops_after (l : List Src3) (s q : Int) : Drops (accT l s q).1 s q := by
  rcases accS_cases l s q with ⟨e, hb⟩ | ⟨hr, ⟨i, x, hf, hx, h1, e⟩ | ⟨hf, i, hi, _, e⟩⟩
  · exact .inl hb
  · refine .inr ⟨(takeT x q).1, ?_, takeS_again x q⟩
    rw [e]
    simp only
    rw [find_set hx ((takeS_of x q).trans h1), if_neg]
    rintro ⟨j, hj, z, h3, h4⟩
    obtain ⟨hi, _, h5⟩ := List.findIdx?_eq_some_iff_getElem.1 hf
    have := h5 j hj
    rw [List.getElem?_eq_getElem (by omega)] at h3
    injection h3 with h3
    rw [h3] at this
    simp [h4] at this
  · refine .inr ⟨(s, q, 1), ?_, ?_⟩
    · rw [e]
      simp only
      rw [List.find?_append, List.find?_eq_none.2]
      · simp
      · intro y hy
        have := List.findIdx?_eq_none_iff.1 hf y (List.mem_of_mem_take hy)
        rw [this]; simp
    · have hz : (q - q) % 65536 = 0 := by omega
      unfold takeT
      simp only [hz]
      rfl
theorem drops_other {l : List Src3} {s q : Int} (h : Drops l s q) (t r : Int) (hne : t ≠ s) : Drops (accT l t r).1 s q := by
  rcases h with h | ⟨x, hx, ht⟩
  · exact .inl h
  · refine .inr ⟨x, ?_, ht⟩
    rcases accS_cases l t r with ⟨e, hb⟩ | ⟨hr, ⟨i, y, hf, hy, h1, e⟩ | ⟨hf, i, hi, _, e⟩⟩
    · rw [e]; exact hx
    · rw [e]
      simp only
      rw [find_set_ne hy (by rw [h1]; exact hne) (by rw [takeS_of, h1]; exact hne)]
      exact hx
    · rw [e]
      simp only
      rw [find_ins_ne i (by simpa using hne)]
      exact hx
end Go.Proofs.Ytimnepfdpehdmaa

namespace Go.Proofs.Ytimnepfdpehdmaa
open Go.RowKit

/-- The state after the frames g were accepted (frame j has the number st + j). -/
def TwinO (src st : Int) (g : Nat → Bool) (L : List Src3) : Prop :=
  ((∀ j, g j = false) ∧ L = []) ∨ ∃ m S, g m = true ∧ (∀ j, g j = true → j ≤ m) ∧ S < 18446744073709551616 ∧ (∀ i, i < 64 → S.testBit i = (decide (i ≤ m) && g (m - i))) ∧ L = [(src, (st + (m : Int)) % 65536, S)]
theorem TwinO.len {src st : Int} {g : Nat → Bool} {L : List Src3} (h : TwinO src st g L) : L.length ≤ 1 ∧ WfL L := by
  rcases h with ⟨_, rfl⟩ | ⟨m, S, _, _, hS, _, rfl⟩
  · exact ⟨by simp, fun _ h => (by cases h)⟩
  · refine ⟨by simp, fun x hx => ?_⟩
    simp only [List.mem_singleton] at hx
    subst hx
    exact ⟨by simp only; omega, by simp only; omega, hS⟩
theorem TwinO.congr {src st : Int} {g g' : Nat → Bool} {L : List Src3} (h : TwinO src st g L) (e : ∀ j, g j = g' j) : TwinO src st g' L := by
  have : g = g' := funext e
  rw [← this]; exact h
theorem one_bit (i : Nat) : (1 : Nat).testBit i = decide (i = 0) := by
  have := Nat.testBit_two_pow (n := 0) (m := i)
  rw [Nat.pow_zero] at this
  rw [this, Bool.eq_iff_iff]
  simp [eq_comm]
theorem shl_testBit (S d i : Nat) (hi : i < 64) : (shl64 S d).testBit i = (decide (d ≤ i) && S.testBit (i - d)) := by
  unfold shl64
  rw [Nat.testBit_mod_two_pow, Nat.testBit_shiftLeft]
  simp [hi]
theorem TwinO.step {src st : Int} {g : Nat → Bool} {L : List Src3} (hsrc : 0 ≤ src ∧ src ≤ 65535) (h : TwinO src st g L) (f : Nat) (hf : f ≤ 300) (hw : ∀ j, g j = true → j ≤ f + 63) :
    (accT L src ((st + (f : Int)) % 65536)).2 = !g f ∧ TwinO src st (fun j => g j || decide (j = f)) (accT L src ((st + (f : Int)) % 65536)).1 := by
  have hq : 0 ≤ (st + (f : Int)) % 65536 ∧ (st + (f : Int)) % 65536 ≤ 65535 := by omega
  rcases h with ⟨h0, rfl⟩ | ⟨m, S, hm, hmx, hS, hb, rfl⟩
  · rw [accS_new (by omega) rfl 0 rfl]
    refine ⟨by simp [h0], .inr ⟨f, 1, by simp, fun j hj => ?_, by decide, fun i hi => ?_, rfl⟩⟩
    · simp [h0] at hj; omega
    · rw [one_bit]
      simp only [h0, Bool.false_or]
      rw [Bool.eq_iff_iff]
      simp
      omega
  · have hm2 := hw m hm
    have hfi : [((src : Int), (st + (m : Int)) % 65536, S)].findIdx? (fun x => decide (x.1 = src)) = some 0 := by simp [List.findIdx?_cons]
    rw [accS_found (by omega) hfi (x := (src, (st + (m : Int)) % 65536, S)) rfl]
    rcases Nat.lt_trichotomy m f with hlt | heq | hgt
    · have hd : ((st + (f : Int)) % 65536 - (st + (m : Int)) % 65536) % 65536 = ((f - m : Nat) : Int) := by omega
      have ht : takeT (src, (st + (m : Int)) % 65536, S) ((st + (f : Int)) % 65536) = ((src, (st + (f : Int)) % 65536, shl64 S (f - m) ||| 1), true) := by
        unfold takeT
        simp only [hd]
        rw [if_pos (by omega), show ((f - m : Nat) : Int).toNat = f - m by omega]
      rw [ht]
      have hgf : g f = false := by
        cases hg : g f with
        | false => rfl
        | true => have := hmx f hg; omega
      refine ⟨by simp [hgf], .inr ⟨f, _, by simp, fun j hj => ?_, or_lt64 (shl64_lt S (f - m)) (show (1 : Nat) < 18446744073709551616 by decide), fun i hi => ?_, rfl⟩⟩
      · simp only [Bool.or_eq_true, decide_eq_true_eq] at hj
        rcases hj with hj | hj
        · have := hmx j hj; omega
        · omega
      · rw [Nat.testBit_or, shl_testBit _ _ _ hi, one_bit]
        by_cases hif : i ≤ f
        · by_cases hi0 : i = 0
          · subst hi0; simp
          · have e1 : decide (f - i = f) = false := by simp; omega
            simp only [hif, decide_true, Bool.true_and, e1, Bool.or_false, show decide (i = 0) = false by simp [hi0]]
            by_cases hid : f - m ≤ i
            · rw [hb (i - (f - m)) (by omega), show m - (i - (f - m)) = f - i by omega]
              simp [hid]
              omega
            · have hg : g (f - i) = false := by
                cases hg : g (f - i) with
                | false => rfl
                | true => have := hmx _ hg; omega
              rw [hg]
              simp [hid]
        · have h1 : decide (i ≤ f) = false := by simpa using hif
          have h2 : decide (i = 0) = false := by simp; omega
          rw [h1, h2]
          by_cases hid : f - m ≤ i
          · rw [hb (i - (f - m)) (by omega), show decide (i - (f - m) ≤ m) = false by simp; omega]
            simp
          · simp [hid]
    · subst heq
      have hd : ((st + (m : Int)) % 65536 - (st + (m : Int)) % 65536) % 65536 = 0 := by omega
      have hS0 := hb 0 (by omega)
      have ht : takeT (src, (st + (m : Int)) % 65536, S) ((st + (m : Int)) % 65536) = ((src, (st + (m : Int)) % 65536, S), false) := by
        unfold takeT
        simp only [hd]
        rw [if_neg (by omega), if_neg]
        intro hh
        have h2 := hh.2
        rw [shr_mod, show (0 : Int).toNat = 0 from rfl, hS0] at h2
        simp [hm] at h2
      rw [ht]
      refine ⟨by simp [hm], ?_⟩
      refine TwinO.congr (.inr ⟨m, S, hm, hmx, hS, hb, rfl⟩) fun j => ?_
      by_cases hj : j = m
      · subst hj; simp [hm]
      · simp [hj]
    · have hd : ((st + (f : Int)) % 65536 - (st + (m : Int)) % 65536) % 65536 = 65536 - ((m - f : Nat) : Int) := by omega
      have hk : ((st + (m : Int)) % 65536 - (st + (f : Int)) % 65536) % 65536 = ((m - f : Nat) : Int) := by omega
      have hbf := hb (m - f) (by omega)
      rw [show m - (m - f) = f by omega, show decide (m - f ≤ m) = true by simp, Bool.true_and] at hbf
      cases hg : g f with
      | true =>
        have ht : takeT (src, (st + (m : Int)) % 65536, S) ((st + (f : Int)) % 65536) = ((src, (st + (m : Int)) % 65536, S), false) := by
          unfold takeT
          simp only [hd, hk]
          rw [if_neg (by omega), if_neg]
          intro hh
          have h2 := hh.2
          rw [shr_mod, show ((m - f : Nat) : Int).toNat = m - f by omega, hbf, hg] at h2
          simp at h2
        rw [ht]
        refine ⟨rfl, ?_⟩
        refine TwinO.congr (.inr ⟨m, S, hm, hmx, hS, hb, rfl⟩) fun j => ?_
        by_cases hj : j = f
        · subst hj; simp [hg]
        · simp [hj]
      | false =>
        have ht : takeT (src, (st + (m : Int)) % 65536, S) ((st + (f : Int)) % 65536) = ((src, (st + (m : Int)) % 65536, S ||| shl64 1 (m - f)), true) := by
          unfold takeT
          simp only [hd, hk]
          rw [if_neg (by omega), if_pos, show ((m - f : Nat) : Int).toNat = m - f by omega]
          refine ⟨by omega, ?_⟩
          rw [shr_mod, show ((m - f : Nat) : Int).toNat = m - f by omega, hbf, hg]
          rfl
        rw [ht]
        refine ⟨rfl, .inr ⟨m, _, by simp [hm], fun j hj => ?_, or_lt64 hS (shl64_lt _ _), fun i hi => ?_, rfl⟩⟩
        · simp only [Bool.or_eq_true, decide_eq_true_eq] at hj
          rcases hj with hj | hj
          · exact hmx j hj
          · omega
        · rw [Nat.testBit_or, hb i hi, shl_bit _ (by omega)]
          by_cases him : i ≤ m
          · have : decide (m - f = i) = decide (m - i = f) := by
              rw [Bool.eq_iff_iff]; simp; omega
            simp [him, this]
          · have : decide (m - f = i) = false := by simp; omega
            simp [him, this]
/-- What has arrived: of frame j a copy on the first network (of the first p frames), or on the second one (of the first q). -/
def got (a0 a1 : Nat → Bool) (p q j : Nat) : Bool := (decide (j < p) && a0 j) || (decide (j < q) && a1 j)
theorem got_a (a0 a1 : Nat → Bool) (p q : Nat) (h : a0 p = true) (j : Nat) : (got a0 a1 p q j || decide (j = p)) = got a0 a1 (p + 1) q j := by
  unfold got
  by_cases hj : j = p
  · subst hj; simp [h]
  · rw [show decide (j < p + 1) = decide (j < p) by rw [Bool.eq_iff_iff]; simp; omega]
    simp [hj]
theorem got_a' (a0 a1 : Nat → Bool) (p q : Nat) (h : a0 p = false) (j : Nat) : got a0 a1 p q j = got a0 a1 (p + 1) q j := by
  unfold got
  by_cases hj : j = p
  · subst hj; simp [h]
  · rw [show decide (j < p + 1) = decide (j < p) by rw [Bool.eq_iff_iff]; simp; omega]
theorem got_b (a0 a1 : Nat → Bool) (p q : Nat) (h : a1 q = true) (j : Nat) : (got a0 a1 p q j || decide (j = q)) = got a0 a1 p (q + 1) j := by
  unfold got
  by_cases hj : j = q
  · subst hj; simp [h]
  · rw [show decide (j < q + 1) = decide (j < q) by rw [Bool.eq_iff_iff]; simp; omega]
    simp [hj]
theorem got_b' (a0 a1 : Nat → Bool) (p q : Nat) (h : a1 q = false) (j : Nat) : got a0 a1 p q j = got a0 a1 p (q + 1) j := by
  unfold got
  by_cases hj : j = q
  · subst hj; simp [h]
  · rw [show decide (j < q + 1) = decide (j < q) by rw [Bool.eq_iff_iff]; simp; omega]
end Go.Proofs.Ytimnepfdpehdmaa
