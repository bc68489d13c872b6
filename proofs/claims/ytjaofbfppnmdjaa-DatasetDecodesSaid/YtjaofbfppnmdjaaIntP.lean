/- A number out of its bytes: the plain law of DatasetIntegers. -/
import Derived.Test.YtjaofbfppnmdjaaDatP
namespace Go.Proofs.Ytjaofbfppnmdjaa
open Go.RowKit

theorem shr_step (n : Int) (j : Nat) : n / 2 ^ (8 * j) / 256 = n / 2 ^ (8 * (j + 1)) := by
  rw [Int.ediv_ediv_of_nonneg (by exact Int.le_of_lt (Int.pow_pos (by omega))), show (2 : Int) ^ (8 * (j + 1)) = 2 ^ (8 * j) * 256 by rw [show 8 * (j + 1) = 8 * j + 8 by omega, Int.pow_add]; rfl]
theorem shr_half (n : Int) (j : Nat) : n / 2 ^ (8 * j) / 128 = n / 2 ^ (8 * (j + 1) - 1) := by
  rw [Int.ediv_ediv_of_nonneg (by exact Int.le_of_lt (Int.pow_pos (by omega))), show (2 : Int) ^ (8 * (j + 1) - 1) = 2 ^ (8 * j) * 128 by rw [show 8 * (j + 1) - 1 = 8 * j + 7 by omega, Int.pow_add]; rfl]
theorem shr_bnd (n : Int) (h0 : -9223372036854775808 ≤ n) (h1 : n ≤ 9223372036854775807) : ∀ j : Nat, 1 ≤ j → -36028797018963968 ≤ n / 2 ^ (8 * j) ∧ n / 2 ^ (8 * j) ≤ 36028797018963967
  | 0, h => by omega
  | 1, _ => by
    have : (2 : Int) ^ (8 * 1) = 256 := by decide
    rw [this]; omega
  | j + 2, _ => by
    have ih := shr_bnd n h0 h1 (j + 1) (by omega)
    have := shr_step n (j + 1)
    rw [show j + 1 + 1 = j + 2 from rfl] at this
    omega
theorem wider_no {n : Int} {k : Nat} (h : wider n k = false) : n / 2 ^ (8 * k - 1) = 0 ∨ n / 2 ^ (8 * k - 1) = -1 := by
  unfold wider at h
  simp only [Bool.and_eq_false_iff, bne_eq_false_iff_eq] at h
  exact h
theorem wider_yes {n : Int} {k : Nat} (h : wider n k = true) : n / 2 ^ (8 * k - 1) ≠ 0 ∧ n / 2 ^ (8 * k - 1) ≠ -1 := by
  unfold wider at h
  simp only [Bool.and_eq_true, bne_iff_ne, ne_eq] at h
  exact h
theorem intLenF_spec (n : Int) : ∀ (f k : Nat), 1 ≤ k → (intLenF n f k = f + k ∨ wider n (intLenF n f k) = false) ∧ (k < intLenF n f k → wider n (intLenF n f k - 1) = true)
  | 0, k, _ => by simp [intLenF]
  | f + 1, k, hk => by
    simp only [intLenF]
    split
    · rename_i hw
      have ih := intLenF_spec n f (k + 1) (by omega)
      refine ⟨?_, fun _ => ?_⟩
      · rcases ih.1 with h | h
        · left; omega
        · exact .inr h
      · have hle := intLenF_le n f (k + 1)
        rcases Nat.lt_or_ge (k + 1) (intLenF n f (k + 1)) with h | h
        · exact ih.2 h
        · rw [show intLenF n f (k + 1) - 1 = k by omega]; exact hw
    · rename_i hw
      exact ⟨.inr (by simpa using hw), fun h => by omega⟩
/-- The number fits. -/
theorem intLen_fits (n : Int) (h0 : -9223372036854775808 ≤ n) (h1 : n ≤ 9223372036854775807) : n / 2 ^ (8 * intLen n - 1) = 0 ∨ n / 2 ^ (8 * intLen n - 1) = -1 := by
  rcases (intLenF_spec n 7 1 (by omega)).1 with h | h
  · have : intLen n = 8 := h
    rw [this, show (2 : Int) ^ (8 * 8 - 1) = 9223372036854775808 by decide]
    omega
  · exact wider_no h
theorem intLen_min (n : Int) (h : 1 < intLen n) : n / 2 ^ (8 * (intLen n - 1) - 1) ≠ 0 ∧ n / 2 ^ (8 * (intLen n - 1) - 1) ≠ -1 := wider_yes ((intLenF_spec n 7 1 (by omega)).2 h)
/-- The sign that the first byte tells. -/
theorem first_sign (n : Int) (h0 : -9223372036854775808 ≤ n) (h1 : n ≤ 9223372036854775807) (k : Nat) (hk : k = intLen n) (hk1 : 1 ≤ k) :
    (128 ≤ n / 2 ^ (8 * (k - 1)) % 256 → n / 2 ^ (8 * k) = -1) ∧ (¬ 128 ≤ n / 2 ^ (8 * (k - 1)) % 256 → n / 2 ^ (8 * k) = 0) := by
  have hf := intLen_fits n h0 h1
  rw [← hk] at hf
  have e1 := shr_half n (k - 1)
  have e2 := shr_step n (k - 1)
  rw [show k - 1 + 1 = k by omega] at e1 e2
  omega
theorem next_num (n : Int) (k i : Nat) (hi : i < k) : n / 2 ^ (8 * (k - i)) * 256 + n / 2 ^ (8 * (k - 1 - i)) % 256 = n / 2 ^ (8 * (k - (i + 1))) := by
  have e := shr_step n (k - 1 - i)
  rw [show k - 1 - i + 1 = k - i by omega] at e
  rw [show k - (i + 1) = k - 1 - i by omega]
  omega
theorem no_spare (n : Int) (h0 : -9223372036854775808 ≤ n) (h1 : n ≤ 9223372036854775807) (k : Nat) (hk : k = intLen n) (hk1 : 1 < k) :
    (n / 2 ^ (8 * (k - 1)) % 256 = 0 → ¬ n / 2 ^ (8 * (k - 2)) % 256 < 128) ∧ (n / 2 ^ (8 * (k - 1)) % 256 = 255 → ¬ 128 ≤ n / 2 ^ (8 * (k - 2)) % 256) := by
  have hf := intLen_fits n h0 h1
  have hm := intLen_min n (by omega)
  rw [← hk] at hf hm
  have e1 := shr_half n (k - 1)
  have e2 := shr_step n (k - 2)
  have e3 := shr_half n (k - 2)
  rw [show k - 1 + 1 = k by omega] at e1
  rw [show k - 2 + 1 = k - 1 by omega] at e2 e3
  omega
theorem or256 (m b : Int) (h0 : -36028797018963968 ≤ m) (h1 : m ≤ 36028797018963967) (hb : 0 ≤ b ∧ b ≤ 255) : bits .or .i64 (m * 256) b = m * 256 + b := by
  have e64 : ((2 ^ 64 : Nat) : Int) = 18446744073709551616 := by decide +kernel
  have h : (BitVec.ofInt 64 (m * 256) ||| BitVec.ofInt 64 b).toNat = (m % 72057594037927936).toNat * 256 + b.toNat := by
    rw [BitVec.toNat_or, BitVec.toNat_ofInt, BitVec.toNat_ofInt, e64]
    rw [show (m * 256 % 18446744073709551616).toNat = (m % 72057594037927936).toNat <<< 8 by rw [Nat.shiftLeft_eq]; omega, show (b % 18446744073709551616).toNat = b.toNat by omega]
    rw [← Nat.shiftLeft_add_eq_or_of_lt (by omega), Nat.shiftLeft_eq]
  show IntKind.i64.wrap (((BitVec.ofInt 64 (m * 256) ||| BitVec.ofInt 64 b).toNat : Nat) : Int) = _
  rw [h, IntKind.wrap_i64]
  omega
end Go.Proofs.Ytjaofbfppnmdjaa
