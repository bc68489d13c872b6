/- Contracts of Same, of the program (through slices.EqualFunc) and of the reference: layer 10. -/
import Derived.Test.YtjaofbfppnmdjaaTlvG
namespace Go.Proofs.Ytjaofbfppnmdjaa
open Go.RowKit
attribute [local go_sem ↓] Go.wp_at_zero Go.wp_at_succ

/-! ### What they compute -/
def sameE {α : Type} (sk : List α → List α → Bool) (x y : NodeOf α) : Bool := decide (x.1 = y.1) && decide (x.2.1 = y.2.1) && sk x.2.2 y.2.2
def sameS {α : Type} (sk : List α → List α → Bool) : List (NodeOf α) → List (NodeOf α) → Bool
  | [], [] => true
  | x :: a, y :: b => sameE sk x y && sameS sk a b
  | _, _ => false
def sameN : (n : Nat) → List (Nd n) → List (Nd n) → Bool
  | 0, _, _ => true
  | n + 1, a, b => sameS (sameN n) a b
theorem sameS_iff {α : Type} (sk : List α → List α → Bool) : ∀ (a b : List (NodeOf α)), sameS sk a b = true ↔ a.length = b.length ∧ ∀ i (h1 : i < a.length) (h2 : i < b.length), sameE sk a[i] b[i] = true
  | [], [] => by simp [sameS]
  | [], _ :: _ => by simp [sameS]
  | _ :: _, [] => by simp [sameS]
  | x :: a, y :: b => by
    simp only [sameS, Bool.and_eq_true, sameS_iff sk a b, List.length_cons]
    constructor
    · rintro ⟨h1, h2, h3⟩
      refine ⟨by omega, fun i hi hi2 => ?_⟩
      cases i with
      | zero => exact h1
      | succ i => exact h3 i (by omega) (by omega)
    · rintro ⟨h1, h2⟩
      exact ⟨h2 0 (by omega) (by omega), by omega, fun i hi hi2 => h2 (i + 1) (by omega) (by omega)⟩
theorem sameS_len {α : Type} (sk : List α → List α → Bool) (a b : List (NodeOf α)) (h : a.length ≠ b.length) : sameS sk a b = false := by
  rw [Bool.eq_false_iff]
  exact fun hh => h ((sameS_iff sk a b).1 hh).1
theorem sameS_at {α : Type} (sk : List α → List α → Bool) (a b : List (NodeOf α)) (i : Nat) (h1 : i < a.length) (h2 : i < b.length) (h : sameE sk a[i] b[i] = false) : sameS sk a b = false := by
  rw [Bool.eq_false_iff]
  intro hh
  have := ((sameS_iff sk a b).1 hh).2 i h1 h2
  rw [h] at this
  cases this
theorem sameN_iff : ∀ (n : Nat) (a b : List (Nd n)), sameN n a b = true ↔ a = b
  | 0, a, b => by
    have h1 := nd_zero a
    have h2 := nd_zero b
    subst h1 h2
    simp [sameN]
  | n + 1, a, b => by
    refine Iff.trans (sameS_iff (sameN n) a b) ?_
    constructor
    · rintro ⟨hl, h⟩
      refine List.ext_getElem hl fun i h1 h2 => ?_
      have h3 := h i h1 h2
      simp only [sameE, Bool.and_eq_true, decide_eq_true_eq, sameN_iff n] at h3
      exact Prod.ext h3.1.1 (Prod.ext h3.1.2 h3.2)
    · rintro rfl
      exact ⟨rfl, fun i h1 _ => by simp only [sameE, Bool.and_eq_true, decide_eq_true_eq, sameN_iff n, and_self]⟩

/-! ### bytes.Equal -/
/-! ### Same of the program -/
end Go.Proofs.Ytjaofbfppnmdjaa
