/- Plain laws of layer 16: what Accept keeps, and that it drops a number that comes again. -/
import Derived.Test.YtdnoejdhphpieaaTwB
namespace Go.Proofs.Ytdnoejdhphpieaa
open Go.RowKit

theorem accS_cases (l : List Src3) (s q : Int) : (accS l s q = (l, false) ∧ (s < 0 ∨ 65535 < s ∨ q < 0 ∨ 65535 < q)) ∨ ((0 ≤ s ∧ s ≤ 65535 ∧ 0 ≤ q ∧ q ≤ 65535) ∧
    ((∃ i x, l.findIdx? (fun x => decide (x.1 = s)) = some i ∧ l[i]? = some x ∧ x.1 = s ∧ accS l s q = (l.set i (takeS x q).1, (takeS x q).2)) ∨
     (l.findIdx? (fun x => decide (x.1 = s)) = none ∧ ∃ i, i ≤ l.length ∧ (l.findIdx? (fun x => decide (s < x.1))).getD l.length = i ∧ accS l s q = (l.take i ++ (s, q, 1) :: l.drop i, true)))) := by
  by_cases hb : s < 0 ∨ 65535 < s ∨ q < 0 ∨ 65535 < q
  · exact .inl ⟨accS_bad hb, hb⟩
  · have hr : 0 ≤ s ∧ s ≤ 65535 ∧ 0 ≤ q ∧ q ≤ 65535 := by omega
    refine .inr ⟨hr, ?_⟩
    cases hf : l.findIdx? (fun x => decide (x.1 = s)) with
    | some i =>
      obtain ⟨hi, h1, _⟩ := List.findIdx?_eq_some_iff_getElem.1 hf
      have hx : l[i]? = some l[i] := List.getElem?_eq_getElem hi
      exact .inl ⟨i, _, rfl, hx, by simpa using h1, accS_found hr hf hx⟩
    | none =>
      refine .inr ⟨rfl, _, ?_, rfl, accS_new hr hf _ rfl⟩
      cases hg : l.findIdx? (fun x => decide (s < x.1)) with
      | none => simp
      | some j =>
        obtain ⟨hj, _⟩ := List.findIdx?_eq_some_iff_getElem.1 hg
        simp only [Option.getD_some]
        omega
def WfL (l : List Src3) : Prop := ∀ x ∈ l, WfX x
theorem accS_wf {l : List Src3} (h : WfL l) (s q : Int) : WfL (accS l s q).1 ∧ (accS l s q).1.length ≤ l.length + 1 := by
  rcases accS_cases l s q with ⟨e, _⟩ | ⟨hr, ⟨i, x, _, hx, _, e⟩ | ⟨_, i, hi, _, e⟩⟩
  · rw [e]; exact ⟨h, by simp only; omega⟩
  · rw [e]
    refine ⟨fun y hy => ?_, by simp⟩
    rcases List.mem_or_eq_of_mem_set hy with hy | hy
    · exact h y hy
    · rw [hy]; exact takeS_wf x q (h x (List.mem_of_getElem? hx)) hr.2.2.1 hr.2.2.2
  · rw [e]
    refine ⟨fun y hy => ?_, by simp only [List.length_append, List.length_cons, List.length_take, List.length_drop]; omega⟩
    simp only [List.mem_append, List.mem_cons] at hy
    rcases hy with hy | hy | hy
    · exact h y (List.mem_of_mem_take hy)
    · rw [hy]; exact ⟨hr.2.2.1, hr.2.2.2, by simp only; decide⟩
    · exact h y (List.mem_of_mem_drop hy)

/-! ### A number that comes again -/
theorem shr_mod (a k : Nat) : shr64 a k % 2 = (a.testBit k).toNat := by
  unfold shr64
  rw [Nat.testBit, Nat.one_and_eq_mod_two]
  have := Nat.mod_two_eq_zero_or_one (a >>> k)
  rcases this with h | h <;> rw [h] <;> rfl
theorem shl_bit (k : Nat) (hk : k < 64) (j : Nat) : (shl64 1 k).testBit j = decide (k = j) := by
  unfold shl64
  rw [Nat.one_shiftLeft, Nat.mod_eq_of_lt (Nat.pow_lt_pow_right (by decide) hk), Nat.testBit_two_pow]
theorem takeS_again (x : Src3) (q : Int) : takeS (takeS x q).1 q = ((takeS x q).1, false) := by
  have hz : (q - q) % 65536 = 0 := by omega
  unfold takeS
  split
  · rename_i h1
    simp only [hz]
    rw [if_neg (by omega), if_neg]
    intro hh
    have h2 := hh.2
    rw [shr_mod] at h2
    simp at h2
  · rename_i h1
    split
    · rename_i h2
      rw [if_neg]
      intro hh
      have h3 := hh.2
      rw [shr_mod, Nat.testBit_or, shl_bit _ (by omega)] at h3
      simp at h3
    · rfl
/-- The number q of the source s is dropped. -/
def Drops (l : List Src3) (s q : Int) : Prop := (s < 0 ∨ 65535 < s ∨ q < 0 ∨ 65535 < q) ∨ ∃ x, l.find? (fun x => decide (x.1 = s)) = some x ∧ takeS x q = (x, false)
theorem find_of_idx {l : List Src3} {s : Int} {i : Nat} {x : Src3} (hf : l.findIdx? (fun x => decide (x.1 = s)) = some i) (hx : l[i]? = some x) : l.find? (fun x => decide (x.1 = s)) = some x := by
  obtain ⟨hi, h1, h2⟩ := List.findIdx?_eq_some_iff_getElem.1 hf
  rw [List.getElem?_eq_getElem hi] at hx
  injection hx with hx
  subst hx
  exact List.find?_eq_some_iff_getElem.2 ⟨h1, i, hi, rfl, fun j hj => by simpa using h2 j hj⟩
theorem drops_acc {l : List Src3} {s q : Int} (h : Drops l s q) : accS l s q = (l, false) := by
  rcases accS_cases l s q with ⟨e, _⟩ | ⟨hr, ⟨i, x, hf, hx, _, e⟩ | ⟨hf, i, hi, _, e⟩⟩
  · exact e
  · rcases h with h | ⟨y, hy, ht⟩
    · omega
    · rw [find_of_idx hf hx] at hy
      injection hy with hy
      subst hy
      rw [e, ht]
      simp only [Prod.mk.injEq, and_true]
      apply List.ext_getElem?
      intro j
      rw [List.getElem?_set]
      split
      · rename_i hij; subst hij; rw [if_pos (by exact (List.getElem?_eq_some_iff.1 hx).1), hx]
      · rfl
  · rcases h with h | ⟨y, hy, ht⟩
    · omega
    · have := List.findIdx?_eq_none_iff.1 hf y (List.mem_of_find?_eq_some hy)
      have h2 := List.find?_some hy
      rw [this] at h2
      cases h2
theorem find_set {l : List Src3} {s : Int} {i : Nat} {x y : Src3} (hx : l[i]? = some x) (h2 : y.1 = s) : (l.set i y).find? (fun x => decide (x.1 = s)) = (if ∃ j, j < i ∧ ∃ z, l[j]? = some z ∧ z.1 = s then l.find? (fun x => decide (x.1 = s)) else some y) := by
  induction l generalizing i with
  | nil => simp at hx
  | cons z l ih =>
    cases i with
    | zero => simp [h2]
    | succ i =>
      rw [List.set_cons_succ, List.find?_cons, List.find?_cons]
      by_cases hz : z.1 = s
      · simp only [hz, decide_true]
        rw [if_pos ⟨0, by omega, z, rfl, hz⟩]
      · simp only [hz, decide_false]
        rw [ih (by simpa using hx)]
        congr 1
        simp only [eq_iff_iff]
        constructor
        · rintro ⟨j, hj, z', h3, h4⟩
          exact ⟨j + 1, by omega, z', by simpa using h3, h4⟩
        · rintro ⟨j, hj, z', h3, h4⟩
          cases j with
          | zero => simp at h3; subst h3; exact absurd h4 hz
          | succ j => exact ⟨j, by omega, z', by simpa using h3, h4⟩
theorem find_set_ne {l : List Src3} {s : Int} {i : Nat} {x y : Src3} (hx : l[i]? = some x) (h1 : x.1 ≠ s) (h2 : y.1 ≠ s) : (l.set i y).find? (fun x => decide (x.1 = s)) = l.find? (fun x => decide (x.1 = s)) := by
  induction l generalizing i with
  | nil => simp at hx
  | cons z l ih =>
    cases i with
    | zero =>
      simp at hx
      subst hx
      simp [h1, h2]
    | succ i =>
      rw [List.set_cons_succ, List.find?_cons, List.find?_cons, ih (by simpa using hx)]
theorem find_ins_ne {l : List Src3} {s : Int} (i : Nat) {y : Src3} (h2 : y.1 ≠ s) : (l.take i ++ y :: l.drop i).find? (fun x => decide (x.1 = s)) = l.find? (fun x => decide (x.1 = s)) := by
  conv => rhs; rw [← List.take_append_drop i l]
  rw [List.find?_append, List.find?_append, List.find?_cons]
  simp [h2]
theorem drops_after (l : List Src3) (s q : Int) : Drops (accS l s q).1 s q := by
  rcases accS_cases l s q with ⟨e, hb⟩ | ⟨hr, ⟨i, x, hf, hx, h1, e⟩ | ⟨hf, i, hi, _, e⟩⟩
  · exact .inl hb
  · refine .inr ⟨(takeS x q).1, ?_, takeS_again x q⟩
    rw [e]
    simp only
    rw [find_set hx ((takeS_of x q).trans h1), if_neg]
    rintro ⟨j, hj, z, h3, h4⟩
    obtain ⟨hi, _, h5⟩ := List.findIdx?_eq_some_iff_getElem.1 hf
    have := h5 j hj
    rw [List.getElem?_eq_getElem (by omega)] at h3
    injection h3 with h3
    rw [h3] at this
    simp [h4] at this
  · refine .inr ⟨(s, q, 1), ?_, ?_⟩
    · rw [e]
      simp only
      rw [List.find?_append, List.find?_eq_none.2]
      · simp
      · intro y hy
        have := List.findIdx?_eq_none_iff.1 hf y (List.mem_of_mem_take hy)
        rw [this]; simp
    · have hz : (q - q) % 65536 = 0 := by omega
      unfold takeS
      simp only [hz]
      rfl
theorem drops_other {l : List Src3} {s q : Int} (h : Drops l s q) (t r : Int) (hne : t ≠ s) : Drops (accS l t r).1 s q := by
  rcases h with h | ⟨x, hx, ht⟩
  · exact .inl h
  · refine .inr ⟨x, ?_, ht⟩
    rcases accS_cases l t r with ⟨e, hb⟩ | ⟨hr, ⟨i, y, hf, hy, h1, e⟩ | ⟨hf, i, hi, _, e⟩⟩
    · rw [e]; exact hx
    · rw [e]
      simp only
      rw [find_set_ne hy (by rw [h1]; exact hne) (by rw [takeS_of, h1]; exact hne)]
      exact hx
    · rw [e]
      simp only
      rw [find_ins_ne i (by simpa using hne)]
      exact hx
end Go.Proofs.Ytdnoejdhphpieaa
