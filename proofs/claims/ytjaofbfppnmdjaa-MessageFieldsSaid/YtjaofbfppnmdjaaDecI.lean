/- Numbers out of bytes and back: the plain law of the integers of layer 11. -/
import Derived.Test.YtjaofbfppnmdjaaIntP
namespace Go.Proofs.Ytjaofbfppnmdjaa
open Go.RowKit

/-- Bytes as a number without a sign. -/
def joinU (l : List Int) : Int := l.foldl (fun m b => m * 256 + b) 0
theorem joinU_snoc (l : List Int) (b : Int) : joinU (l ++ [b]) = joinU l * 256 + b := by simp [joinU]
theorem snoc_ind {α : Type} {P : List α → Prop} (h0 : P []) (h1 : ∀ l x, P l → P (l ++ [x])) : ∀ l, P l := by
  intro l
  obtain ⟨n, hn⟩ : ∃ n, l.length = n := ⟨_, rfl⟩
  induction n generalizing l with
  | zero => rw [List.eq_nil_of_length_eq_zero hn]; exact h0
  | succ n ih =>
    rcases List.eq_nil_or_concat l with h | ⟨l', x, h⟩
    · rw [h] at hn; simp at hn
    · rw [List.concat_eq_append] at h
      subst h
      exact h1 l' x (ih l' (by simpa using hn))
theorem byt_snoc {l : List Int} {b : Int} (h : Byt (l ++ [b])) : Byt l ∧ 0 ≤ b ∧ b ≤ 255 := ⟨fun x hx => h x (by simp [hx]), h b (by simp)⟩
theorem p8 (k : Nat) : (2 : Int) ^ (8 * (k + 1)) = 2 ^ (8 * k) * 256 := by rw [show 8 * (k + 1) = 8 * k + 8 by omega, Int.pow_add]; rfl
theorem p8_pos (k : Nat) : (0 : Int) < 2 ^ (8 * k) := Int.pow_pos (by omega)
theorem p2_le (a b : Nat) (h : a ≤ b) : (2 : Int) ^ a ≤ 2 ^ b := by
  obtain ⟨d, rfl⟩ : ∃ d, b = a + d := ⟨b - a, by omega⟩
  clear h
  induction d with
  | zero => exact Int.le_refl _
  | succ d ih =>
    have : (0 : Int) < 2 ^ (a + d) := Int.pow_pos (by omega)
    rw [show a + (d + 1) = (a + d) + 1 by omega, Int.pow_succ]
    omega
theorem joinU_lt : ∀ (l : List Int), Byt l → 0 ≤ joinU l ∧ joinU l < 2 ^ (8 * l.length) := by
  refine snoc_ind (fun _ => by simp [joinU]) fun l b ih hb => ?_
  obtain ⟨h1, h2, h3⟩ := byt_snoc hb
  have := ih h1
  rw [joinU_snoc, List.length_append, List.length_singleton, p8]
  omega
theorem numB_zero (n : Int) : numB n 0 = [] := rfl
theorem numB_snoc (n : Int) (k : Nat) : numB n (k + 1) = numB (n / 256) k ++ [n % 256] := by
  apply List.ext_getElem (by simp [numB])
  intro i h1 h2
  rw [numB_len] at h1
  have hg := numB_get n (k + 1) i h1
  rw [List.getElem?_eq_getElem (by rw [numB_len]; exact h1)] at hg
  injection hg with hg
  rw [hg]
  rcases Nat.lt_or_ge i k with h | h
  · have hg2 := numB_get (n / 256) k i h
    rw [List.getElem?_eq_getElem (by rw [numB_len]; exact h)] at hg2
    injection hg2 with hg2
    rw [List.getElem_append_left (by rw [numB_len]; exact h), hg2, Int.ediv_ediv_of_nonneg (by omega)]
    congr 2
    rw [show k + 1 - 1 - i = (k - 1 - i) + 1 by omega, p8]
    rw [Int.mul_comm]
  · have : i = k := by omega
    subst this
    rw [List.getElem_append_right (by rw [numB_len]; exact Nat.le_refl _)]
    simp
theorem joinU_numB : ∀ (k : Nat) (n : Int), joinU (numB n k) = n % 2 ^ (8 * k)
  | 0, n => by simp [numB_zero, joinU]
  | k + 1, n => by
    rw [numB_snoc, joinU_snoc, joinU_numB k, p8]
    have hP := p8_pos k
    generalize (2 : Int) ^ (8 * k) = P at *
    have h1 := Int.emod_add_mul_ediv (n / 256) P
    have h2 := Int.emod_nonneg (n / 256) (show P ≠ 0 by omega)
    have h3 := Int.emod_lt_of_pos (n / 256) hP
    generalize n / 256 % P = R at *
    have e : n = (R * 256 + n % 256) + P * 256 * (n / 256 / P) := by
      rw [Int.mul_assoc, Int.mul_comm 256, ← Int.mul_assoc]
      omega
    have e2 : n % (P * 256) = ((R * 256 + n % 256) + P * 256 * (n / 256 / P)) % (P * 256) := by rw [← e]
    rw [e2, Int.add_mul_emod_self_left]
    exact (Int.emod_eq_of_lt (a := R * 256 + n % 256) (b := P * 256) (by omega) (by omega)).symm
theorem numB_joinU : ∀ (l : List Int), Byt l → numB (joinU l) l.length = l := by
  refine snoc_ind (fun _ => rfl) fun l b ih hb => ?_
  obtain ⟨h1, h2, h3⟩ := byt_snoc hb
  rw [joinU_snoc, List.length_append, List.length_singleton, numB_snoc, show (joinU l * 256 + b) / 256 = joinU l by omega, show (joinU l * 256 + b) % 256 = b by omega, ih h1]
theorem numB_shift : ∀ (k : Nat) (n c : Int), numB (n - c * 2 ^ (8 * k)) k = numB n k
  | 0, n, c => rfl
  | k + 1, n, c => by
    rw [numB_snoc, numB_snoc, p8, show n - c * (2 ^ (8 * k) * 256) = n - (c * 2 ^ (8 * k)) * 256 by rw [Int.mul_assoc], show (n - c * 2 ^ (8 * k) * 256) / 256 = n / 256 - c * 2 ^ (8 * k) by omega, show (n - c * 2 ^ (8 * k) * 256) % 256 = n % 256 by omega, numB_shift k]
/-- Bytes as a number with a sign. -/
def sgnV (l : List Int) : Int := if 128 ≤ l.getD 0 0 then joinU l - 2 ^ (8 * l.length) else joinU l
/-- The first byte could be left out. -/
def spareB (l : List Int) : Bool := decide (1 < l.length) && ((decide (l.getD 0 0 = 0) && decide (l.getD 1 0 < 128)) || (decide (l.getD 0 0 = 255) && decide (128 ≤ l.getD 1 0)))
theorem numB_d0 (n : Int) (k : Nat) (hk : 1 ≤ k) : (numB n k).getD 0 0 = n / 2 ^ (8 * (k - 1)) % 256 := by
  rw [List.getD_eq_getElem?_getD, numB_get n k 0 hk]; rfl
theorem numB_d1 (n : Int) (k : Nat) (hk : 1 < k) : (numB n k).getD 1 0 = n / 2 ^ (8 * (k - 2)) % 256 := by
  rw [List.getD_eq_getElem?_getD, numB_get n k 1 hk, show k - 1 - 1 = k - 2 by omega]; rfl
/-- An integer reads back from its bytes. -/
theorem int_back (n : Int) (h0 : -9223372036854775808 ≤ n) (h1 : n ≤ 9223372036854775807) : sgnV (numB n (intLen n)) = n ∧ spareB (numB n (intLen n)) = false := by
  obtain ⟨k, hk⟩ : ∃ k, k = intLen n := ⟨_, rfl⟩
  rw [← hk]
  have hk1 : 1 ≤ k := by have := intLen_le n; omega
  have hs := first_sign n h0 h1 k hk hk1
  constructor
  · unfold sgnV
    rw [numB_d0 n k hk1, joinU_numB, numB_len]
    have hdm := Int.emod_add_mul_ediv n (2 ^ (8 * k))
    split
    · rename_i h
      rw [hs.1 h] at hdm
      omega
    · rename_i h
      rw [hs.2 h] at hdm
      omega
  · unfold spareB
    rw [numB_len]
    by_cases h : 1 < k
    · have hn := no_spare n h0 h1 k hk h
      rw [numB_d0 n k hk1, numB_d1 n k h]
      by_cases e0 : n / 2 ^ (8 * (k - 1)) % 256 = 0
      · have := hn.1 e0
        simp [e0, this]
      · by_cases e1 : n / 2 ^ (8 * (k - 1)) % 256 = 255
        · have := hn.2 e1
          simp [e1, this]
        · simp [e0, e1]
    · simp [h]
theorem intLenF_eq (n : Int) (k : Nat) (hk : k = 8 ∨ wider n k = false) : ∀ (f j : Nat), j + f = 8 → j ≤ k → k ≤ 8 → (∀ i, j ≤ i → i < k → wider n i = true) → intLenF n f j = k
  | 0, j, h1, h2, h3, _ => by simp only [intLenF]; omega
  | f + 1, j, h1, h2, h3, h4 => by
    simp only [intLenF]
    rcases Nat.lt_or_ge j k with h | h
    · rw [if_pos (h4 j (Nat.le_refl _) h)]
      exact intLenF_eq n k hk f (j + 1) (by omega) (by omega) h3 (fun i hi hk => h4 i (by omega) hk)
    · obtain rfl : j = k := by omega
      rcases hk with hk | hk
      · omega
      · rw [hk]; rfl
theorem wider_iff (n : Int) (k : Nat) : wider n k = true ↔ (n < -(2 ^ (8 * k - 1)) ∨ 2 ^ (8 * k - 1) ≤ n) := by
  unfold wider
  have hp : (0 : Int) < 2 ^ (8 * k - 1) := Int.pow_pos (by omega)
  generalize (2 : Int) ^ (8 * k - 1) = P at *
  simp only [Bool.and_eq_true, bne_iff_ne, ne_eq]
  have h1 : n / P = 0 ↔ 0 ≤ n ∧ n < P := by
    constructor
    · intro h
      have := Int.emod_add_mul_ediv n P
      rw [h] at this
      have h2 := Int.emod_nonneg n (show P ≠ 0 by omega)
      have h3 := Int.emod_lt_of_pos n hp
      omega
    · rintro ⟨h, h'⟩
      exact Int.ediv_eq_zero_of_lt h h'
  have h2 : n / P = -1 ↔ -P ≤ n ∧ n < 0 := by
    constructor
    · intro h
      have := Int.emod_add_mul_ediv n P
      rw [h] at this
      have h2 := Int.emod_nonneg n (show P ≠ 0 by omega)
      have h3 := Int.emod_lt_of_pos n hp
      omega
    · rintro ⟨h, h'⟩
      have e : n = (n + P) + (-1) * P := by omega
      rw [e, Int.add_mul_ediv_right _ _ (show P ≠ 0 by omega), Int.ediv_eq_zero_of_lt (by omega) (by omega)]
      rfl
  rw [h1, h2]
  omega
theorem wider_mono (n : Int) (j k : Nat) (hj : 1 ≤ j) (h : j ≤ k) (hw : wider n k = true) : wider n j = true := by
  rw [wider_iff] at *
  have : (2 : Int) ^ (8 * j - 1) ≤ 2 ^ (8 * k - 1) := p2_le _ _ (by omega)
  omega
theorem div_of (q P r : Int) (hP : 0 < P) (h0 : 0 ≤ r) (h1 : r < P) : (q * P + r) / P = q := by
  rw [Int.add_comm, Int.add_mul_ediv_right _ _ (show P ≠ 0 by omega), Int.ediv_eq_zero_of_lt h0 h1]
  omega
theorem joinU_cons (x : Int) (l : List Int) : joinU (x :: l) = x * 2 ^ (8 * l.length) + joinU l := by
  have key : ∀ (l : List Int) (a : Int), l.foldl (fun m b => m * 256 + b) a = a * 2 ^ (8 * l.length) + joinU l := by
    refine snoc_ind (fun a => by simp [joinU]) fun l b ih a => ?_
    rw [List.foldl_append, ih, joinU_snoc, List.length_append, List.length_singleton, p8]
    simp only [List.foldl_cons, List.foldl_nil]
    rw [Int.add_mul, Int.mul_assoc]
    omega
  show List.foldl (fun m b => m * 256 + b) 0 (x :: l) = _
  rw [List.foldl_cons, key]
  simp
/-- Bytes without a spare one are those of their number. -/
theorem int_canon (l : List Int) (hb : Byt l) (h1 : 1 ≤ l.length) (h8 : l.length ≤ 8) (hs : spareB l = false) : numB (sgnV l) (intLen (sgnV l)) = l ∧ -9223372036854775808 ≤ sgnV l ∧ sgnV l ≤ 9223372036854775807 := by
  have hn : numB (sgnV l) l.length = l := by
    unfold sgnV
    split
    · have := numB_shift l.length (joinU l) 1
      rw [Int.one_mul] at this
      rw [this, numB_joinU l hb]
    · exact numB_joinU l hb
  have hw : wider (sgnV l) l.length = false ∧ (1 < l.length → wider (sgnV l) (l.length - 1) = true) := by
    match l, h1 with
    | [x], _ =>
      refine ⟨?_, fun h => by simp at h⟩
      have hx := hb x (by simp)
      unfold sgnV wider
      simp only [List.getD_cons_zero, joinU, List.foldl_cons, List.foldl_nil, List.length_singleton]
      rw [show (2 : Int) ^ (8 * 1) = 256 by decide, show (2 : Int) ^ (8 * 1 - 1) = 128 by decide]
      split
      · rw [show (0 * 256 + x - 256) / 128 = -1 by omega]; rfl
      · rw [show (0 * 256 + x) / 128 = 0 by omega]; rfl
    | x :: y :: r, _ =>
      have hx := hb x (by simp)
      have hy := hb y (by simp)
      have hr := joinU_lt r (fun z hz => hb z (by simp [hz]))
      have hP := p8_pos r.length
      have hU : joinU (x :: y :: r) = (x * 256 + y) * 2 ^ (8 * r.length) + joinU r := by
        rw [joinU_cons, joinU_cons, List.length_cons, p8, Int.add_mul, Int.mul_assoc, Int.mul_comm 256]
        omega
      have hS : sgnV (x :: y :: r) = (if 128 ≤ x then x * 256 + y - 65536 else x * 256 + y) * 2 ^ (8 * r.length) + joinU r := by
        unfold sgnV
        rw [List.getD_cons_zero, hU, List.length_cons, List.length_cons, p8, p8]
        split
        · rw [Int.sub_mul, Int.mul_assoc, Int.mul_comm 65536, show (256 : Int) * 256 = 65536 by decide]
          omega
        · rfl
      have hq := div_of (if 128 ≤ x then x * 256 + y - 65536 else x * 256 + y) (2 ^ (8 * r.length)) (joinU r) hP hr.1 hr.2
      rw [← hS] at hq
      have e1 : sgnV (x :: y :: r) / 2 ^ (8 * (r.length + 1 + 1) - 1) = sgnV (x :: y :: r) / 2 ^ (8 * r.length) / 32768 := by
        rw [Int.ediv_ediv_of_nonneg (by omega), show 8 * (r.length + 1 + 1) - 1 = 8 * r.length + 15 by omega, Int.pow_add]; rfl
      have e2 : sgnV (x :: y :: r) / 2 ^ (8 * (r.length + 1) - 1) = sgnV (x :: y :: r) / 2 ^ (8 * r.length) / 128 := by
        rw [Int.ediv_ediv_of_nonneg (by omega), show 8 * (r.length + 1) - 1 = 8 * r.length + 7 by omega, Int.pow_add]; rfl
      unfold spareB at hs
      simp only [List.length_cons, List.getD_cons_zero, List.getD_cons_succ] at hs
      rw [decide_eq_true (show 1 < r.length + 1 + 1 by omega), Bool.true_and, Bool.or_eq_false_iff, Bool.and_eq_false_iff, Bool.and_eq_false_iff] at hs
      simp only [decide_eq_false_iff_not] at hs
      unfold wider
      simp only [List.length_cons, Nat.add_sub_cancel]
      rw [e1, e2, hq]
      split
      · refine ⟨?_, fun _ => ?_⟩
        · rw [show (x * 256 + y - 65536) / 32768 = -1 by omega]; rfl
        · simp only [Bool.and_eq_true, bne_iff_ne, ne_eq]; omega
      · refine ⟨?_, fun _ => ?_⟩
        · rw [show (x * 256 + y) / 32768 = 0 by omega]; rfl
        · simp only [Bool.and_eq_true, bne_iff_ne, ne_eq]; omega
  have hl : intLen (sgnV l) = l.length := intLenF_eq _ _ (.inr hw.1) 7 1 rfl h1 h8 (fun i hi hk => wider_mono _ i (l.length - 1) hi (by omega) (hw.2 (by omega)))
  refine ⟨by rw [hl]; exact hn, ?_⟩
  have hwf := hw.1
  have : ¬ (wider (sgnV l) l.length = true) := by rw [hwf]; simp
  rw [wider_iff] at this
  have hp : (2 : Int) ^ (8 * l.length - 1) ≤ 2 ^ (8 * 8 - 1) := p2_le _ _ (by omega)
  rw [show (2 : Int) ^ (8 * 8 - 1) = 9223372036854775808 by decide] at hp
  omega
end Go.Proofs.Ytjaofbfppnmdjaa
