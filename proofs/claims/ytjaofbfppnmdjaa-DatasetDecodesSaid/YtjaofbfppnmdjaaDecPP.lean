/- Numbers out of bytes and back: the plain law of the integers of layer 11. -/
import Derived.Test.YtjaofbfppnmdjaaIntP
import Derived.Test.YtjaofbfppnmdjaaBitP
import Derived.Test.YtjaofbfppnmdjaaValA
import Derived.Test.YtjaofbfppnmdjaaDatC
import Derived.Test.YtjaofbfppnmdjaaStr
import Derived.Test.YtjaofbfppnmdjaaDatD
import Derived.Test.YtjaofbfppnmdjaaTlvP
namespace Go.Proofs.Ytjaofbfppnmdjaa
open Go.RowKit

/-- Bytes as a number without a sign. -/
def joinU (l : List Int) : Int := l.foldl (fun m b => m * 256 + b) 0
theorem joinU_snoc (l : List Int) (b : Int) : joinU (l ++ [b]) = joinU l * 256 + b := by simp [joinU]
theorem snoc_ind {α : Type} {P : List α → Prop} (h0 : P []) (h1 : ∀ l x, P l → P (l ++ [x])) : ∀ l, P l := by
  intro l
  obtain ⟨n, hn⟩ : ∃ n, l.length = n := ⟨_, rfl⟩
  induction n generalizing l with
  | zero => rw [List.eq_nil_of_length_eq_zero hn]; exact h0
  | succ n ih =>
    rcases List.eq_nil_or_concat l with h | ⟨l', x, h⟩
    · rw [h] at hn; simp at hn
    · rw [List.concat_eq_append] at h
      subst h
      exact h1 l' x (ih l' (by simpa using hn))
theorem byt_snoc {l : List Int} {b : Int} (h : Byt (l ++ [b])) : Byt l ∧ 0 ≤ b ∧ b ≤ 255 := ⟨fun x hx => h x (by simp [hx]), h b (by simp)⟩
theorem p8 (k : Nat) : (2 : Int) ^ (8 * (k + 1)) = 2 ^ (8 * k) * 256 := by rw [show 8 * (k + 1) = 8 * k + 8 by omega, Int.pow_add]; rfl
theorem p8_pos (k : Nat) : (0 : Int) < 2 ^ (8 * k) := Int.pow_pos (by omega)
theorem p2_le (a b : Nat) (h : a ≤ b) : (2 : Int) ^ a ≤ 2 ^ b := by
  obtain ⟨d, rfl⟩ : ∃ d, b = a + d := ⟨b - a, by omega⟩
  clear h
  induction d with
  | zero => exact Int.le_refl _
  | succ d ih =>
    have : (0 : Int) < 2 ^ (a + d) := Int.pow_pos (by omega)
    rw [show a + (d + 1) = (a + d) + 1 by omega, Int.pow_succ]
    omega
theorem joinU_lt : ∀ (l : List Int), Byt l → 0 ≤ joinU l ∧ joinU l < 2 ^ (8 * l.length) := by
  refine snoc_ind (fun _ => by simp [joinU]) fun l b ih hb => ?_
  obtain ⟨h1, h2, h3⟩ := byt_snoc hb
  have := ih h1
  rw [joinU_snoc, List.length_append, List.length_singleton, p8]
  omega
theorem numB_zero (n : Int) : numB n 0 = [] := rfl
theorem numB_snoc (n : Int) (k : Nat) : numB n (k + 1) = numB (n / 256) k ++ [n % 256] := by
  apply List.ext_getElem (by simp [numB])
  intro i h1 h2
  rw [numB_len] at h1
  have hg := numB_get n (k + 1) i h1
  rw [List.getElem?_eq_getElem (by rw [numB_len]; exact h1)] at hg
  injection hg with hg
  rw [hg]
  rcases Nat.lt_or_ge i k with h | h
  · have hg2 := numB_get (n / 256) k i h
    rw [List.getElem?_eq_getElem (by rw [numB_len]; exact h)] at hg2
    injection hg2 with hg2
    rw [List.getElem_append_left (by rw [numB_len]; exact h), hg2, Int.ediv_ediv_of_nonneg (by omega)]
    congr 2
    rw [show k + 1 - 1 - i = (k - 1 - i) + 1 by omega, p8]
    rw [Int.mul_comm]
  · have : i = k := by omega
    subst this
    rw [List.getElem_append_right (by rw [numB_len]; exact Nat.le_refl _)]
    simp
theorem joinU_numB : ∀ (k : Nat) (n : Int), joinU (numB n k) = n % 2 ^ (8 * k)
  | 0, n => by simp [numB_zero, joinU]
  | k + 1, n => by
    rw [numB_snoc, joinU_snoc, joinU_numB k, p8]
    have hP := p8_pos k
    generalize (2 : Int) ^ (8 * k) = P at *
    have h1 := Int.emod_add_mul_ediv (n / 256) P
    have h2 := Int.emod_nonneg (n / 256) (show P ≠ 0 by omega)
    have h3 := Int.emod_lt_of_pos (n / 256) hP
    generalize n / 256 % P = R at *
    have e : n = (R * 256 + n % 256) + P * 256 * (n / 256 / P) := by
      rw [Int.mul_assoc, Int.mul_comm 256, ← Int.mul_assoc]
      omega
    have e2 : n % (P * 256) = ((R * 256 + n % 256) + P * 256 * (n / 256 / P)) % (P * 256) := by rw [← e]
    rw [e2, Int.add_mul_emod_self_left]
    exact (Int.emod_eq_of_lt (a := R * 256 + n % 256) (b := P * 256) (by omega) (by omega)).symm
theorem numB_joinU : ∀ (l : List Int), Byt l → numB (joinU l) l.length = l := by
  refine snoc_ind (fun _ => rfl) fun l b ih hb => ?_
  obtain ⟨h1, h2, h3⟩ := byt_snoc hb
  rw [joinU_snoc, List.length_append, List.length_singleton, numB_snoc, show (joinU l * 256 + b) / 256 = joinU l by omega, show (joinU l * 256 + b) % 256 = b by omega, ih h1]
theorem numB_shift : ∀ (k : Nat) (n c : Int), numB (n - c * 2 ^ (8 * k)) k = numB n k
  | 0, n, c => rfl
  | k + 1, n, c => by
    rw [numB_snoc, numB_snoc, p8, show n - c * (2 ^ (8 * k) * 256) = n - (c * 2 ^ (8 * k)) * 256 by rw [Int.mul_assoc], show (n - c * 2 ^ (8 * k) * 256) / 256 = n / 256 - c * 2 ^ (8 * k) by omega, show (n - c * 2 ^ (8 * k) * 256) % 256 = n % 256 by omega, numB_shift k]
/-- Bytes as a number with a sign. -/
def sgnV (l : List Int) : Int := if 128 ≤ l.getD 0 0 then joinU l - 2 ^ (8 * l.length) else joinU l
/-- The first byte could be left out. -/
def spareB (l : List Int) : Bool := decide (1 < l.length) && ((decide (l.getD 0 0 = 0) && decide (l.getD 1 0 < 128)) || (decide (l.getD 0 0 = 255) && decide (128 ≤ l.getD 1 0)))
theorem numB_d0 (n : Int) (k : Nat) (hk : 1 ≤ k) : (numB n k).getD 0 0 = n / 2 ^ (8 * (k - 1)) % 256 := by
  rw [List.getD_eq_getElem?_getD, numB_get n k 0 hk]; rfl
theorem numB_d1 (n : Int) (k : Nat) (hk : 1 < k) : (numB n k).getD 1 0 = n / 2 ^ (8 * (k - 2)) % 256 := by
  rw [List.getD_eq_getElem?_getD, numB_get n k 1 hk, show k - 1 - 1 = k - 2 by omega]; rfl
/-- An integer reads back from its bytes. -/
theorem int_back (n : Int) (h0 : -9223372036854775808 ≤ n) (h1 : n ≤ 9223372036854775807) : sgnV (numB n (intLen n)) = n ∧ spareB (numB n (intLen n)) = false := by
  obtain ⟨k, hk⟩ : ∃ k, k = intLen n := ⟨_, rfl⟩
  rw [← hk]
  have hk1 : 1 ≤ k := by have := intLen_le n; omega
  have hs := first_sign n h0 h1 k hk hk1
  constructor
  · unfold sgnV
    rw [numB_d0 n k hk1, joinU_numB, numB_len]
    have hdm := Int.emod_add_mul_ediv n (2 ^ (8 * k))
    split
    · rename_i h
      rw [hs.1 h] at hdm
      omega
    · rename_i h
      rw [hs.2 h] at hdm
      omega
  · unfold spareB
    rw [numB_len]
    by_cases h : 1 < k
    · have hn := no_spare n h0 h1 k hk h
      rw [numB_d0 n k hk1, numB_d1 n k h]
      by_cases e0 : n / 2 ^ (8 * (k - 1)) % 256 = 0
      · have := hn.1 e0
        simp [e0, this]
      · by_cases e1 : n / 2 ^ (8 * (k - 1)) % 256 = 255
        · have := hn.2 e1
          simp [e1, this]
        · simp [e0, e1]
    · simp [h]
theorem intLenF_eq (n : Int) (k : Nat) (hk : k = 8 ∨ wider n k = false) : ∀ (f j : Nat), j + f = 8 → j ≤ k → k ≤ 8 → (∀ i, j ≤ i → i < k → wider n i = true) → intLenF n f j = k
  | 0, j, h1, h2, h3, _ => by simp only [intLenF]; omega
  | f + 1, j, h1, h2, h3, h4 => by
    simp only [intLenF]
    rcases Nat.lt_or_ge j k with h | h
    · rw [if_pos (h4 j (Nat.le_refl _) h)]
      exact intLenF_eq n k hk f (j + 1) (by omega) (by omega) h3 (fun i hi hk => h4 i (by omega) hk)
    · obtain rfl : j = k := by omega
      rcases hk with hk | hk
      · omega
      · rw [hk]; rfl
theorem wider_iff (n : Int) (k : Nat) : wider n k = true ↔ (n < -(2 ^ (8 * k - 1)) ∨ 2 ^ (8 * k - 1) ≤ n) := by
  unfold wider
  have hp : (0 : Int) < 2 ^ (8 * k - 1) := Int.pow_pos (by omega)
  generalize (2 : Int) ^ (8 * k - 1) = P at *
  simp only [Bool.and_eq_true, bne_iff_ne, ne_eq]
  have h1 : n / P = 0 ↔ 0 ≤ n ∧ n < P := by
    constructor
    · intro h
      have := Int.emod_add_mul_ediv n P
      rw [h] at this
      have h2 := Int.emod_nonneg n (show P ≠ 0 by omega)
      have h3 := Int.emod_lt_of_pos n hp
      omega
    · rintro ⟨h, h'⟩
      exact Int.ediv_eq_zero_of_lt h h'
  have h2 : n / P = -1 ↔ -P ≤ n ∧ n < 0 := by
    constructor
    · intro h
      have := Int.emod_add_mul_ediv n P
      rw [h] at this
      have h2 := Int.emod_nonneg n (show P ≠ 0 by omega)
      have h3 := Int.emod_lt_of_pos n hp
      omega
    · rintro ⟨h, h'⟩
      have e : n = (n + P) + (-1) * P := by omega
      rw [e, Int.add_mul_ediv_right _ _ (show P ≠ 0 by omega), Int.ediv_eq_zero_of_lt (by omega) (by omega)]
      rfl
  rw [h1, h2]
  omega
theorem wider_mono (n : Int) (j k : Nat) (hj : 1 ≤ j) (h : j ≤ k) (hw : wider n k = true) : wider n j = true := by
  rw [wider_iff] at *
  have : (2 : Int) ^ (8 * j - 1) ≤ 2 ^ (8 * k - 1) := p2_le _ _ (by omega)
  omega
theorem div_of (q P r : Int) (hP : 0 < P) (h0 : 0 ≤ r) (h1 : r < P) : (q * P + r) / P = q := by
  rw [Int.add_comm, Int.add_mul_ediv_right _ _ (show P ≠ 0 by omega), Int.ediv_eq_zero_of_lt h0 h1]
  omega
theorem joinU_cons (x : Int) (l : List Int) : joinU (x :: l) = x * 2 ^ (8 * l.length) + joinU l := by
  have key : ∀ (l : List Int) (a : Int), l.foldl (fun m b => m * 256 + b) a = a * 2 ^ (8 * l.length) + joinU l := by
    refine snoc_ind (fun a => by simp [joinU]) fun l b ih a => ?_
    rw [List.foldl_append, ih, joinU_snoc, List.length_append, List.length_singleton, p8]
    simp only [List.foldl_cons, List.foldl_nil]
    rw [Int.add_mul, Int.mul_assoc]
    omega
  show List.foldl (fun m b => m * 256 + b) 0 (x :: l) = _
  rw [List.foldl_cons, key]
  simp
/-- Bytes without a spare one are those of their number. -/
theorem int_canon (l : List Int) (hb : Byt l) (h1 : 1 ≤ l.length) (h8 : l.length ≤ 8) (hs : spareB l = false) : numB (sgnV l) (intLen (sgnV l)) = l ∧ -9223372036854775808 ≤ sgnV l ∧ sgnV l ≤ 9223372036854775807 := by
  have hn : numB (sgnV l) l.length = l := by
    unfold sgnV
    split
    · have := numB_shift l.length (joinU l) 1
      rw [Int.one_mul] at this
      rw [this, numB_joinU l hb]
    · exact numB_joinU l hb
  have hw : wider (sgnV l) l.length = false ∧ (1 < l.length → wider (sgnV l) (l.length - 1) = true) := by
    match l, h1 with
    | [x], _ =>
      refine ⟨?_, fun h => by simp at h⟩
      have hx := hb x (by simp)
      unfold sgnV wider
      simp only [List.getD_cons_zero, joinU, List.foldl_cons, List.foldl_nil, List.length_singleton]
      rw [show (2 : Int) ^ (8 * 1) = 256 by decide, show (2 : Int) ^ (8 * 1 - 1) = 128 by decide]
      split
      · rw [show (0 * 256 + x - 256) / 128 = -1 by omega]; rfl
      · rw [show (0 * 256 + x) / 128 = 0 by omega]; rfl
    | x :: y :: r, _ =>
      have hx := hb x (by simp)
      have hy := hb y (by simp)
      have hr := joinU_lt r (fun z hz => hb z (by simp [hz]))
      have hP := p8_pos r.length
      have hU : joinU (x :: y :: r) = (x * 256 + y) * 2 ^ (8 * r.length) + joinU r := by
        rw [joinU_cons, joinU_cons, List.length_cons, p8, Int.add_mul, Int.mul_assoc, Int.mul_comm 256]
        omega
      have hS : sgnV (x :: y :: r) = (if 128 ≤ x then x * 256 + y - 65536 else x * 256 + y) * 2 ^ (8 * r.length) + joinU r := by
        unfold sgnV
        rw [List.getD_cons_zero, hU, List.length_cons, List.length_cons, p8, p8]
        split
        · rw [Int.sub_mul, Int.mul_assoc, Int.mul_comm 65536, show (256 : Int) * 256 = 65536 by decide]
          omega
        · rfl
      have hq := div_of (if 128 ≤ x then x * 256 + y - 65536 else x * 256 + y) (2 ^ (8 * r.length)) (joinU r) hP hr.1 hr.2
      rw [← hS] at hq
      have e1 : sgnV (x :: y :: r) / 2 ^ (8 * (r.length + 1 + 1) - 1) = sgnV (x :: y :: r) / 2 ^ (8 * r.length) / 32768 := by
        rw [Int.ediv_ediv_of_nonneg (by omega), show 8 * (r.length + 1 + 1) - 1 = 8 * r.length + 15 by omega, Int.pow_add]; rfl
      have e2 : sgnV (x :: y :: r) / 2 ^ (8 * (r.length + 1) - 1) = sgnV (x :: y :: r) / 2 ^ (8 * r.length) / 128 := by
        rw [Int.ediv_ediv_of_nonneg (by omega), show 8 * (r.length + 1) - 1 = 8 * r.length + 7 by omega, Int.pow_add]; rfl
      unfold spareB at hs
      simp only [List.length_cons, List.getD_cons_zero, List.getD_cons_succ] at hs
      rw [decide_eq_true (show 1 < r.length + 1 + 1 by omega), Bool.true_and, Bool.or_eq_false_iff, Bool.and_eq_false_iff, Bool.and_eq_false_iff] at hs
      simp only [decide_eq_false_iff_not] at hs
      unfold wider
      simp only [List.length_cons, Nat.add_sub_cancel]
      rw [e1, e2, hq]
      split
      · refine ⟨?_, fun _ => ?_⟩
        · rw [show (x * 256 + y - 65536) / 32768 = -1 by omega]; rfl
        · simp only [Bool.and_eq_true, bne_iff_ne, ne_eq]; omega
      · refine ⟨?_, fun _ => ?_⟩
        · rw [show (x * 256 + y) / 32768 = 0 by omega]; rfl
        · simp only [Bool.and_eq_true, bne_iff_ne, ne_eq]; omega
  have hl : intLen (sgnV l) = l.length := intLenF_eq _ _ (.inr hw.1) 7 1 rfl h1 h8 (fun i hi hk => wider_mono _ i (l.length - 1) hi (by omega) (hw.2 (by omega)))
  refine ⟨by rw [hl]; exact hn, ?_⟩
  have hwf := hw.1
  have : ¬ (wider (sgnV l) l.length = true) := by rw [hwf]; simp
  rw [wider_iff] at this
  have hp : (2 : Int) ^ (8 * l.length - 1) ≤ 2 ^ (8 * 8 - 1) := p2_le _ _ (by omega)
  rw [show (2 : Int) ^ (8 * 8 - 1) = 9223372036854775808 by decide] at hp
  omega
end Go.Proofs.Ytjaofbfppnmdjaa

namespace Go.Proofs.Ytjaofbfppnmdjaa
open Go.RowKit

/-- The bit k of the bytes behind the first one. -/
def bitAt (D : List Int) (k : Nat) : Bool := (D.getD (1 + k / 8) 0).toNat.testBit (7 - k % 8)
/-- The number of bits. -/
def cntB (D : List Int) : Nat := 8 * (D.length - 1) - (D.getD 0 0).toNat
def bitsOf (D : List Int) : List Bool := (List.range (cntB D)).map (bitAt D)
/-- Are bytes those of a bit string? -/
def bitsOk (D : List Int) : Prop := 1 ≤ D.length ∧ D.length ≤ 9 ∧ D.getD 0 0 ≤ 7 ∧ (D.getD 0 0).toNat ≤ 8 * (D.length - 1) ∧ ∀ k, cntB D ≤ k → k < 8 * (D.length - 1) → bitAt D k = false
theorem bitsB_len' (s : ByteArray) : (bitsB s).length = 1 + (s.size + 7) / 8 := by simp [bitsB]; omega
theorem bitsB_d0 (s : ByteArray) : (bitsB s).getD 0 0 = (padB s.size : Int) := rfl
theorem bitsB_at (s : ByteArray) (j : Nat) (h : j < (s.size + 7) / 8) : (bitsB s).getD (1 + j) 0 = bitV s s.size j := by
  rw [List.getD_eq_getElem?_getD, Nat.add_comm]
  simp [bitsB, h]
theorem bitAt_bitsB (s : ByteArray) (k : Nat) (h : k < 8 * ((s.size + 7) / 8)) : bitAt (bitsB s) k = decide (k < s.size ∧ s.data.toList.getD k 0 = 49) := by
  unfold bitAt
  rw [bitsB_at s (k / 8) (by omega), bitV_test s (k % 8) (Nat.mod_lt _ (by omega)), show 8 * (k / 8) + k % 8 = k by omega]
theorem cnt_bitsB (s : ByteArray) : cntB (bitsB s) = s.size := by
  unfold cntB
  rw [bitsB_len', bitsB_d0, Int.toNat_natCast]
  unfold padB
  omega
theorem strL_bits (s : ByteArray) (h : bitB s = true) : strL ((List.range s.size).map fun k => decide (k < s.size ∧ s.data.toList.getD k 0 = 49)) = s := by
  rw [bytes_eq, ByteArray.toList_eq, ByteArray.toList_eq]
  have hsz : s.size = s.data.toList.length := rfl
  apply List.ext_getElem
  · show (strL _).size = s.size
    rw [strL_size, List.length_map, List.length_range]
  · intro i h1 h2
    have hi : i < s.size := by rw [hsz]; exact h2
    have hb := (bitB_iff s).1 h i hi
    have e : s.data.toList.getD i 0 = s[i] := by
      rw [List.getD_eq_getElem?_getD, List.getElem?_eq_getElem h2]
      rfl
    simp only [strL, List.getElem_map, List.getElem_range, e, hi, true_and]
    have e2 : s.data.toList[i] = s[i] := rfl
    rw [e2]
    simp only [Bool.or_eq_true, beq_iff_eq] at hb
    rcases hb with hb | hb
    · rw [hb]; rfl
    · rw [hb]; rfl
/-- A bit string reads back from its bytes. -/
theorem bits_back (s : ByteArray) (h : bitB s = true) (h64 : s.size ≤ 64) : bitsOk (bitsB s) ∧ strL (bitsOf (bitsB s)) = s := by
  have hp := padB_le s.size
  constructor
  · refine ⟨by rw [bitsB_len']; omega, by rw [bitsB_len']; omega, by rw [bitsB_d0]; omega, ?_, fun k h1 h2 => ?_⟩
    · rw [bitsB_len', bitsB_d0, Int.toNat_natCast]; unfold padB; omega
    · rw [cnt_bitsB] at h1
      rw [bitsB_len'] at h2
      rw [bitAt_bitsB s k (by omega)]
      exact decide_eq_false (fun h => by omega)
  · rw [← strL_bits s h]
    congr 1
    unfold bitsOf
    rw [strL_bits s h, cnt_bitsB]
    apply List.ext_getElem (by simp)
    intro i h1 h2
    simp only [List.getElem_map, List.getElem_range]
    exact bitAt_bitsB s i (by simp at h1; omega)
theorem byte_ext (a b : Int) (ha : 0 ≤ a ∧ a ≤ 255) (hb : 0 ≤ b ∧ b ≤ 255) (h : ∀ r, r < 8 → a.toNat.testBit (7 - r) = b.toNat.testBit (7 - r)) : a = b := by
  have : a.toNat = b.toNat := by
    apply Nat.eq_of_testBit_eq
    intro i
    rcases Nat.lt_or_ge i 8 with hi | hi
    · have := h (7 - i) (by omega)
      rw [show 7 - (7 - i) = i by omega] at this
      exact this
    · have hp : 2 ^ 8 ≤ 2 ^ i := Nat.pow_le_pow_right (by omega) hi
      rw [Nat.testBit_lt_two_pow (by omega), Nat.testBit_lt_two_pow (by omega)]
  omega
/-- Bytes of a bit string are those of it. -/
theorem bits_canon (D : List Int) (hb : Byt D) (h : bitsOk D) : bitsB (strL (bitsOf D)) = D ∧ (bitsOf D).length ≤ 64 := by
  obtain ⟨h1, h9, h7, hc, hz⟩ := h
  have hd0 : 0 ≤ D.getD 0 0 := by
    match D, h1 with
    | x :: r, _ => exact (hb x (by simp)).1
  have hl : (bitsOf D).length = cntB D := by simp [bitsOf]
  have hsz : (strL (bitsOf D)).size = cntB D := by rw [strL_size, hl]
  have hcnt : cntB D = 8 * (D.length - 1) - (D.getD 0 0).toNat := rfl
  have hn : (cntB D + 7) / 8 = D.length - 1 := by omega
  refine ⟨?_, by omega⟩
  apply List.ext_getElem (by rw [bitsB_len', hsz]; omega)
  intro i hi1 hi2
  have e1 : (bitsB (strL (bitsOf D)))[i] = (bitsB (strL (bitsOf D))).getD i 0 := by rw [List.getD_eq_getElem?_getD, List.getElem?_eq_getElem hi1]; rfl
  have e2 : D[i] = D.getD i 0 := by rw [List.getD_eq_getElem?_getD, List.getElem?_eq_getElem hi2]; rfl
  have hDi := hb _ (List.getElem_mem hi2)
  rw [e2] at hDi
  rw [e1, e2]
  rcases Nat.eq_zero_or_pos i with hi | hi
  · subst hi
    rw [bitsB_d0, hsz]
    unfold padB
    omega
  · obtain ⟨j, rfl⟩ : ∃ j, i = 1 + j := ⟨i - 1, by omega⟩
    have hj : j < (cntB D + 7) / 8 := by omega
    rw [bitsB_at _ j (by rw [hsz]; exact hj)]
    refine byte_ext _ _ (bitV_le _ _ _) hDi fun r hr => ?_
    rw [bitV_test _ r hr]
    have hbt : (D.getD (1 + j) 0).toNat.testBit (7 - r) = bitAt D (8 * j + r) := by
      unfold bitAt
      rw [show (8 * j + r) / 8 = j by omega, show (8 * j + r) % 8 = r by omega]
    rw [hbt, hsz]
    rcases Nat.lt_or_ge (8 * j + r) (cntB D) with h | h
    · have hg : (strL (bitsOf D)).data.toList.getD (8 * j + r) 0 = 49 ↔ bitAt D (8 * j + r) = true := by
        rw [strL_get]
        simp [bitsOf, h]
      rw [Bool.eq_iff_iff, decide_eq_true_eq, hg]
      exact ⟨fun h => h.2, fun h' => ⟨h, h'⟩⟩
    · rw [hz _ h (by omega)]
      exact decide_eq_false (fun h' => by omega)
end Go.Proofs.Ytjaofbfppnmdjaa

namespace Go.Proofs.Ytjaofbfppnmdjaa
open Go.RowKit

/-- No string. -/
abbrev noStr : ByteArray := ⟨#[]⟩
open Classical in
/-- The value that a tag and bytes are. -/
noncomputable def readV (t : Int) (D : List Int) : Option Val :=
  if t = 131 then (if D.length = 1 ∧ D.getD 0 0 ≤ 1 then some ⟨1, D.getD 0 0, noStr, 0, 0, 0⟩ else none)
  else if t = 132 then (if bitsOk D then some ⟨3, 0, strL (bitsOf D), 0, 0, 0⟩ else none)
  else if t = 133 then (if 1 ≤ D.length ∧ D.length ≤ 8 ∧ spareB D = false then some ⟨2, sgnV D, noStr, 0, 0, 0⟩ else none)
  else if t = 138 then (if D.length ≤ 64 then some ⟨4, 0, strOfNums D, 0, 0, 0⟩ else none)
  else if t = 145 then (if D.length = 8 then some ⟨5, 0, noStr, joinU (D.take 4), joinU ((D.drop 4).take 3), D.getD 7 0⟩ else none)
  else none
/-- The kind of a tag, or 0. -/
def kindT (t : Int) : Int := if t = 131 then 1 else if t = 132 then 3 else if t = 133 then 2 else if t = 138 then 4 else if t = 145 then 5 else 0
theorem strB_of (D : List Int) (hb : Byt D) : strB (strOfNums D) = D := by
  unfold strB
  have h : (strOfNums D).data.toList = D.map (fun i => UInt8.ofNat i.toNat) := by
    rw [← ByteArray.toList_eq, Lib.strOfNums_toList]
    rfl
  rw [h, List.map_map]
  conv => rhs; rw [← List.map_id D]
  apply List.map_congr_left
  intro x hx
  have := hb x hx
  simp only [Function.comp, UInt8.toNat_ofNat', id]
  omega
theorem of_strB (s : ByteArray) : strOfNums (strB s) = s := by
  rw [bytes_eq, Lib.strOfNums_toList, ByteArray.toList_eq]
  unfold strB Lib.bytesOf
  rw [List.map_map]
  conv => rhs; rw [← List.map_id s.data.toList]
  apply List.map_congr_left
  intro x _
  simp
theorem noStr_of {v : Val} (h : noS v = true) : v.s = noStr := by
  unfold noS at h
  rw [bytes_eq]
  have : v.s.toList = [] := by simpa using h
  rw [this, ByteArray.toList_eq]
theorem noT_of {v : Val} (h : noT v = true) : v.sec = 0 ∧ v.frac = 0 ∧ v.qual = 0 := by
  unfold noT at h
  simpa [and_assoc] using h
theorem noS_empty (k n a b c : Int) : noS ⟨k, n, noStr, a, b, c⟩ = true := by unfold noS; simp [ByteArray.toList_eq]
theorem st_ok {a b c : Int} (h : stErr a b c = 0) : 0 ≤ a ∧ a ≤ 4294967295 ∧ 0 ≤ b ∧ b ≤ 16777215 ∧ 0 ≤ c ∧ c ≤ 255 := by
  unfold stErr at h
  split at h
  · omega
  · omega
theorem take_three (a b c : Int) : (numB a 4 ++ numB b 3 ++ numB c 1).take 4 = numB a 4 ∧ ((numB a 4 ++ numB b 3 ++ numB c 1).drop 4).take 3 = numB b 3 ∧ (numB a 4 ++ numB b 3 ++ numB c 1).getD 7 0 = c % 256 := by
  have h4 := numB_len a 4
  have h3 := numB_len b 3
  rw [List.append_assoc]
  refine ⟨by rw [List.take_append_of_le_length (by omega), List.take_of_length_le (by omega)], by rw [List.drop_append_of_le_length (by omega), List.drop_of_length_le (by omega), List.nil_append, List.take_append_of_le_length (by omega), List.take_of_length_le (by omega)], ?_⟩
  rw [List.getD_eq_getElem?_getD, List.getElem?_append_right (by omega), h4, List.getElem?_append_right (by omega), h3, numB_one]
  rfl
/-- A value reads back from its tag and bytes. -/
theorem readV_back (v : Val) (h : chk v = 0) (hn : -9223372036854775808 ≤ v.n ∧ v.n ≤ 9223372036854775807) : readV (tagV v) (datV v) = some v := by
  have hk := chk_kind h
  obtain ⟨k, n, s, a, b, c⟩ := v
  simp only [isKind, Bool.and_eq_true, decide_eq_true_eq] at hk
  unfold chk at h
  simp only at h hn
  obtain rfl | rfl | rfl | rfl | rfl : k = 1 ∨ k = 2 ∨ k = 3 ∨ k = 4 ∨ k = 5 := by omega
  · rw [if_pos rfl] at h
    split at h
    · rename_i h2
      rw [Bool.and_eq_true] at h2
      have e1 := noStr_of h2.1
      have e2 := noT_of h2.2
      simp only at e1 e2
      obtain ⟨rfl, rfl, rfl⟩ := e2
      subst e1
      split at h
      · rename_i h3
        show readV 131 (numB n 1) = _
        unfold readV
        rw [if_pos rfl, numB_one]
        rcases h3 with rfl | rfl <;> rfl
      · omega
    · omega
  · rw [if_neg (by omega), if_pos rfl] at h
    split at h
    · rename_i h2
      rw [Bool.and_eq_true] at h2
      have e1 := noStr_of h2.1
      have e2 := noT_of h2.2
      simp only at e1 e2
      obtain ⟨rfl, rfl, rfl⟩ := e2
      subst e1
      show readV 133 (numB n (intLen n)) = _
      have hb := int_back n hn.1 hn.2
      have hl := intLen_le n
      unfold readV
      rw [if_neg (by omega), if_neg (by omega), if_pos rfl, if_pos ⟨by rw [numB_len]; exact hl.1, by rw [numB_len]; exact hl.2, hb.2⟩, hb.1]
    · omega
  · rw [if_neg (by omega), if_neg (by omega), if_pos rfl] at h
    split at h
    · rename_i h2
      rw [Bool.and_eq_true] at h2
      have e2 := noT_of h2.2
      have e1 : n = 0 := by simpa [noN] using h2.1
      simp only at e2
      obtain ⟨rfl, rfl, rfl⟩ := e2
      subst e1
      unfold bitErr at h
      split at h
      · omega
      · split at h
        · rename_i h3 h4
          show readV 132 (bitsB s) = _
          have hb := bits_back s h4 (by omega)
          unfold readV
          rw [if_neg (by omega), if_pos rfl, if_pos hb.1, hb.2]
        · omega
    · omega
  · rw [if_neg (by omega), if_neg (by omega), if_neg (by omega), if_pos rfl] at h
    split at h
    · rename_i h2
      rw [Bool.and_eq_true] at h2
      have e2 := noT_of h2.2
      have e1 : n = 0 := by simpa [noN] using h2.1
      simp only at e2
      obtain ⟨rfl, rfl, rfl⟩ := e2
      subst e1
      split at h
      · omega
      · show readV 138 (strB s) = _
        unfold readV
        rw [if_neg (by omega), if_neg (by omega), if_neg (by omega), if_pos rfl, if_pos (by rw [strB_len]; omega), of_strB]
    · omega
  · rw [if_neg (by omega), if_neg (by omega), if_neg (by omega), if_neg (by omega), if_pos rfl] at h
    split at h
    · rename_i h2
      rw [Bool.and_eq_true] at h2
      have e2 := noStr_of h2.2
      have e1 : n = 0 := by simpa [noN] using h2.1
      simp only at e2
      subst e1 e2
      have hs := st_ok h
      show readV 145 (numB a 4 ++ numB b 3 ++ numB c 1) = _
      have ht := take_three a b c
      unfold readV
      rw [if_neg (by omega), if_neg (by omega), if_neg (by omega), if_neg (by omega), if_pos rfl, if_pos (by simp [numB_len]), ht.1, ht.2.1, ht.2.2, joinU_numB, joinU_numB]
      rw [show (2 : Int) ^ (8 * 4) = 4294967296 by decide, show (2 : Int) ^ (8 * 3) = 16777216 by decide]
      rw [Int.emod_eq_of_lt (by omega) (by omega), Int.emod_eq_of_lt (by omega) (by omega), Int.emod_eq_of_lt (by omega) (by omega)]
    · omega
theorem getD_byt {D : List Int} (hb : Byt D) (i : Nat) : 0 ≤ D.getD i 0 ∧ D.getD i 0 ≤ 255 := by
  rw [List.getD_eq_getElem?_getD]
  rcases Nat.lt_or_ge i D.length with h | h
  · rw [List.getElem?_eq_getElem h]
    exact hb _ (List.getElem_mem h)
  · rw [List.getElem?_eq_none h]
    simp
/-- What reads as a value is its tag and bytes. -/
theorem readV_canon (t : Int) (D : List Int) (hb : Byt D) (v : Val) (h : readV t D = some v) : chk v = 0 ∧ tagV v = t ∧ datV v = D ∧ -9223372036854775808 ≤ v.n ∧ v.n ≤ 9223372036854775807 ∧ v.kind = kindT t := by
  unfold readV at h
  split at h
  · rename_i ht
    subst ht
    split at h
    · rename_i h1
      injection h with h
      subst h
      obtain ⟨h1, h2⟩ := h1
      match D, h1 with
      | [x], _ =>
        have hx := hb x (by simp)
        simp only [List.getD_cons_zero] at h2 ⊢
        refine ⟨?_, rfl, ?_, by omega, by omega, rfl⟩
        · unfold chk
          simp only [noS_empty, noT]
          simp
          omega
        · show numB x 1 = [x]
          rw [numB_one]
          congr 1
          omega
    · cases h
  split at h
  · rename_i ht
    subst ht
    split at h
    · rename_i h1
      injection h with h
      subst h
      have hc := bits_canon D hb h1
      exact ⟨strL_chk _ hc.2, rfl, hc.1, by show (-9223372036854775808 : Int) ≤ 0; omega, by show (0 : Int) ≤ 9223372036854775807; omega, rfl⟩
    · cases h
  split at h
  · rename_i ht
    subst ht
    split at h
    · rename_i h1
      injection h with h
      subst h
      have hc := int_canon D hb h1.1 h1.2.1 h1.2.2
      refine ⟨?_, rfl, hc.1, hc.2.1, hc.2.2, rfl⟩
      unfold chk
      simp only [noS_empty, noT]
      simp
    · cases h
  split at h
  · rename_i ht
    subst ht
    split at h
    · rename_i h1
      injection h with h
      subst h
      refine ⟨?_, rfl, strB_of D hb, by show (-9223372036854775808 : Int) ≤ 0; omega, by show (0 : Int) ≤ 9223372036854775807; omega, rfl⟩
      have hs : (strOfNums D).size = D.length := by rw [← strB_len, strB_of D hb]
      unfold chk
      simp only [noN, noT]
      simp [hs, h1]
    · cases h
  split at h
  · rename_i ht
    subst ht
    split at h
    · rename_i h1
      injection h with h
      subst h
      have b4 := joinU_lt (D.take 4) (hb.take 4)
      have b3 := joinU_lt ((D.drop 4).take 3) ((hb.drop 4).take 3)
      have l4 : (D.take 4).length = 4 := by rw [List.length_take]; omega
      have l3 : ((D.drop 4).take 3).length = 3 := by rw [List.length_take, List.length_drop]; omega
      rw [l4, show (2 : Int) ^ (8 * 4) = 4294967296 by decide] at b4
      rw [l3, show (2 : Int) ^ (8 * 3) = 16777216 by decide] at b3
      have b1 := getD_byt hb 7
      refine ⟨?_, rfl, ?_, by show (-9223372036854775808 : Int) ≤ 0; omega, by show (0 : Int) ≤ 9223372036854775807; omega, rfl⟩
      · rw [chk_time]
        unfold stErr
        rw [if_neg (by omega)]
      · show numB (joinU (D.take 4)) 4 ++ numB (joinU ((D.drop 4).take 3)) 3 ++ numB (D.getD 7 0) 1 = D
        have n4 := numB_joinU (D.take 4) (hb.take 4)
        have n3 := numB_joinU ((D.drop 4).take 3) ((hb.drop 4).take 3)
        rw [l4] at n4
        rw [l3] at n3
        rw [n4, n3, numB_one, Int.emod_eq_of_lt b1.1 (by omega)]
        match D, h1 with
        | [x0, x1, x2, x3, x4, x5, x6, x7], _ => rfl
    · cases h
  · cases h
end Go.Proofs.Ytjaofbfppnmdjaa

namespace Go.Proofs.Ytjaofbfppnmdjaa
open Go.RowKit

/-! ### Nodes at one depth more -/
def liftS {α β : Type} (f : α → β) (x : NodeOf α) : NodeOf β := (x.1, x.2.1, x.2.2.map f)
theorem chkS_lift {α β : Type} (f : α → β) (ea : List α → Int → Int) (eb : List β → Int → Int) (h : ∀ l d, eb (l.map f) d = ea l d) (l : List (NodeOf α)) (d : Int) : chkS eb (l.map (liftS f)) d = chkS ea l d := by
  unfold chkS
  rw [List.map_map]
  congr 1
  apply List.map_congr_left
  intro x _
  simp only [Function.comp, liftS, errS, List.length_map, h]
theorem szS_lift {α β : Type} (f : α → β) (za : List α → Nat) (zb : List β → Nat) (h : ∀ l, zb (l.map f) = za l) (l : List (NodeOf α)) : szS zb (l.map (liftS f)) = szS za l := by
  unfold szS
  rw [List.map_map]
  congr 1
  apply List.map_congr_left
  intro x _
  simp only [Function.comp, liftS, szE, h]
theorem encS_lift {α β : Type} (f : α → β) (ea : List α → List Int) (eb : List β → List Int) (h : ∀ l, eb (l.map f) = ea l) (l : List (NodeOf α)) : encS eb (l.map (liftS f)) = encS ea l := by
  unfold encS
  rw [List.flatMap_map]
  congr 1
  funext x
  simp only [liftS, encE, h]
def lift : (n : Nat) → Nd n → Nd (n + 1)
  | 0, x => nomatch (x : Empty)
  | n + 1, x => liftS (lift n) x
theorem chk_lift : ∀ (n : Nat) (l : List (Nd n)) (d : Int), chkN (n + 1) (l.map (lift n)) d = chkN n l d
  | 0, l, d => by rw [nd_zero l]; rfl
  | n + 1, l, d => chkS_lift (lift n) (chkN n) (chkN (n + 1)) (chk_lift n) l d
theorem sz_lift : ∀ (n : Nat) (l : List (Nd n)), szN (n + 1) (l.map (lift n)) = szN n l
  | 0, l => by rw [nd_zero l]; rfl
  | n + 1, l => szS_lift (lift n) (szN n) (szN (n + 1)) (sz_lift n) l
theorem enc_lift : ∀ (n : Nat) (l : List (Nd n)), encN (n + 1) (l.map (lift n)) = encN n l
  | 0, l => by rw [nd_zero l]; rfl
  | n + 1, l => encS_lift (lift n) (encN n) (encN (n + 1)) (enc_lift n) l
theorem out_lift (n : Nat) (l : List (Nd n)) : encOut (n + 1) (l.map (lift n)) = encOut n l ∧ encErr (n + 1) (l.map (lift n)) = encErr n l := by
  unfold encOut encErr
  rw [chk_lift, sz_lift, enc_lift]
  exact ⟨rfl, rfl⟩
theorem lift_nodeV (k : Nat) (l : List Val) : (l.map (nodeV k)).map (lift (k + 1)) = l.map (nodeV (k + 1)) := by
  induction l with
  | nil => rfl
  | cons x l ih => exact congrArg (List.cons (nodeV (k + 1) x)) ih
theorem out_vals : ∀ (k : Nat) (l : List Val), encOut (k + 1) (l.map (nodeV k)) = encOut 1 (l.map (nodeV 0)) ∧ encErr (k + 1) (l.map (nodeV k)) = encErr 1 (l.map (nodeV 0))
  | 0, l => ⟨rfl, rfl⟩
  | k + 1, l => by
    have ih := out_vals k l
    have h := out_lift (k + 1) (l.map (nodeV k))
    have e : List.map (lift (k + 1)) (List.map (nodeV k) l) = l.map (nodeV (k + 1)) := lift_nodeV k l
    rw [e] at h
    exact ⟨h.1.trans ih.1, h.2.trans ih.2⟩

/-! ### Values out of nodes -/
/-- The error of one node. -/
noncomputable def errV {α : Type} (x : NodeOf α) : Int := if kindT x.1 = 0 ∨ 0 < x.2.2.length then 15 else if readV x.1 x.2.1 = none then 16 else 0
noncomputable def valsE {α : Type} (l : List (NodeOf α)) : Int := fstErr (l.map errV)
noncomputable def valsOf {α : Type} (l : List (NodeOf α)) : List Val := l.filterMap fun x => readV x.1 x.2.1
/-- What Values gives. -/
noncomputable def valsV {α : Type} (l : List (NodeOf α)) : List Val := if valsE l = 0 then valsOf l else []
theorem errV_zero {α : Type} {x : NodeOf α} (h : errV x = 0) : x.2.2 = [] ∧ ∃ v, readV x.1 x.2.1 = some v := by
  unfold errV at h
  split at h
  · omega
  · rename_i h1
    split at h
    · omega
    · rename_i h2
      refine ⟨List.eq_nil_of_length_eq_zero (by omega), ?_⟩
      cases hr : readV x.1 x.2.1 with
      | none => exact absurd hr h2
      | some v => exact ⟨v, rfl⟩
theorem tag_kind (v : Val) (h : isKind v = true) : kindT (tagV v) = v.kind := by
  simp only [isKind, Bool.and_eq_true, decide_eq_true_eq] at h
  unfold tagV
  obtain h1 | h1 | h1 | h1 | h1 : v.kind = 1 ∨ v.kind = 2 ∨ v.kind = 3 ∨ v.kind = 4 ∨ v.kind = 5 := by omega
  all_goals rw [h1]; rfl
/-- A number that Go can hold. -/
def inN (v : Val) : Prop := -9223372036854775808 ≤ v.n ∧ v.n ≤ 9223372036854775807
theorem vals_back (k : Nat) : ∀ (l : List Val), vErr l = 0 → (∀ v ∈ l, inN v) → valsE (l.map (nodeV k)) = 0 ∧ valsOf (l.map (nodeV k)) = l
  | [], _, _ => ⟨rfl, rfl⟩
  | v :: l, h, hn => by
    have hc := vErr_zero _ h v (by simp)
    have h2 : vErr l = 0 := by simp only [vErr, hc, if_true] at h; exact h
    have ih := vals_back k l h2 (fun x hx => hn x (by simp [hx]))
    have hr := readV_back v hc (hn v (by simp))
    have hk := chk_kind hc
    have he : errV (nodeV k v) = 0 := by
      unfold errV nodeV
      simp only [hr]
      rw [if_neg, if_neg (by simp)]
      rw [tag_kind v hk]
      simp only [isKind, Bool.and_eq_true, decide_eq_true_eq] at hk
      simp only [List.length_nil]
      omega
    constructor
    · unfold valsE at ih ⊢
      rw [List.map_cons, List.map_cons, he]
      exact ih.1
    · have e : valsOf (nodeV k v :: l.map (nodeV k)) = v :: valsOf (l.map (nodeV k)) := List.filterMap_cons_some (f := fun x : NodeOf (Nd k) => readV x.1 x.2.1) hr
      rw [List.map_cons, e, ih.2]
theorem vals_canon (k : Nat) : ∀ (l : List (NodeOf (Nd k))), (∀ x ∈ l, Byt x.2.1) → valsE l = 0 → vErr (valsOf l) = 0 ∧ (valsOf l).map (nodeV k) = l ∧ ∀ v ∈ valsOf l, inN v
  | [], _, _ => ⟨rfl, rfl, fun v h => by cases h⟩
  | x :: l, hb, h => by
    have h0 : errV x = 0 ∧ valsE l = 0 := by
      unfold valsE at h ⊢
      simp only [List.map_cons, fstErr] at h
      split at h
      · rename_i h1; exact ⟨h1, h⟩
      · rename_i h1; exact absurd h h1
    obtain ⟨ih1, ih2, ih3⟩ := vals_canon k l (fun y hy => hb y (by simp [hy])) h0.2
    obtain ⟨hk, v, hr⟩ := errV_zero h0.1
    obtain ⟨c1, c2, c3, c4, c5, _⟩ := readV_canon _ _ (hb x (by simp)) v hr
    have e : valsOf (x :: l) = v :: valsOf l := List.filterMap_cons_some (f := fun x : NodeOf (Nd k) => readV x.1 x.2.1) hr
    rw [e]
    refine ⟨?_, ?_, ?_⟩
    · simp only [vErr]
      rw [if_pos c1]
      exact ih1
    · rw [List.map_cons, ih2]
      congr 1
      unfold nodeV
      rw [c2, c3, ← hk]
    · intro y hy
      cases hy with
      | head => exact ⟨c4, c5⟩
      | tail _ hy => exact ih3 y hy
theorem valsV_len {α : Type} (l : List (NodeOf α)) (h : valsE l = 0) : (valsOf l).length = l.length := by
  unfold valsE at h
  have h2 := fstErr_zero errV l h
  clear h
  induction l with
  | nil => rfl
  | cons x l ih =>
    obtain ⟨_, v, hr⟩ := errV_zero (h2 x (by simp))
    have e : valsOf (x :: l) = v :: valsOf l := List.filterMap_cons_some (f := fun x : NodeOf α => readV x.1 x.2.1) hr
    rw [e, List.length_cons, List.length_cons, ih (fun y hy => h2 y (by simp [hy]))]

/-! ### Decode -/
/-- What Decode of values gives. -/
noncomputable def decDV (bs : List Int) : List Val := if (decTop 7 bs).2 = 0 then valsV (decTop 7 bs).1 else []
noncomputable def decDE (bs : List Int) : Int := if (decTop 7 bs).2 = 0 then valsE (decTop 7 bs).1 else (decTop 7 bs).2
theorem round11 (l : List Val) (h : encDE l = 0) (hn : ∀ v ∈ l, inN v) : decDE (encDB l) = 0 ∧ decDV (encDB l) = l := by
  have hv : vErr l = 0 := by
    unfold encDE at h
    by_cases h0 : vErr l = 0
    · exact h0
    · rw [if_neg h0] at h; exact h
  have he : encErr 1 (l.map (nodeV 0)) = 0 := by unfold encDE at h; rw [if_pos hv] at h; exact h
  have hb : encDB l = encOut 7 (l.map (nodeV 6)) := by unfold encDB; rw [if_pos hv]; exact (out_vals 6 l).1.symm
  have hr := (round_trip 7 (l.map (nodeV 6)) ((out_vals 6 l).2.trans he)).1
  rw [← hb] at hr
  have hk := vals_back 6 l hv hn
  unfold decDE decDV valsV
  rw [hr]
  exact ⟨hk.1, (if_pos rfl).trans ((if_pos hk.1).trans hk.2)⟩
/-- All data are bytes, at any depth. -/
def bytN : (n : Nat) → List (Nd n) → Prop
  | 0, _ => True
  | n + 1, l => ∀ x ∈ l, Byt (x : NodeOf (Nd n)).2.1 ∧ bytN n (x : NodeOf (Nd n)).2.2
theorem byt_decF (n : Nat) (d : Int) (kid : List Int → List (Nd n) × Int) (hk : ∀ b, Byt b → bytN n (kid b).1) : ∀ (f : Nat) (b : List Int), Byt b → bytN (n + 1) (decF d kid f b).1
  | 0, b, _ => fun x hx => by cases hx
  | f + 1, b, hb => by
    have ih := byt_decF n d kid hk f (b.drop ((hd b d).2.1 + (hd b d).2.2.1)) (hb.drop _)
    have h1 := hk ((b.drop (hd b d).2.1).take (hd b d).2.2.1) ((hb.drop _).take _)
    unfold decF
    split
    · exact fun x hx => by cases hx
    split
    · exact fun x hx => by cases hx
    split
    · exact fun x hx => by cases hx
    split
    · exact fun x hx => by cases hx
    intro x hx
    cases hx with
    | head =>
      split
      · exact ⟨Byt.nil, h1⟩
      · exact ⟨(hb.drop _).take _, by cases n with
          | zero => trivial
          | succ n => exact fun y hy => by cases hy⟩
    | tail _ hx => exact ih x hx
theorem byt_decN : ∀ (n : Nat) (d : Int) (b : List Int), Byt b → bytN n (decN n d b).1
  | 0, _, _, _ => trivial
  | n + 1, d, b, hb => byt_decF n d (decN n (d + 1)) (fun b' hb' => byt_decN n (d + 1) b' hb') b.length b hb
theorem byt_decTop (n : Nat) (b : List Int) (hb : Byt b) : bytN n (decTop n b).1 := by
  unfold decTop
  split
  · cases n with
    | zero => trivial
    | succ n => exact fun x hx => by cases hx
  · exact byt_decN n 0 b hb
theorem canon11 (bs : List Int) (hb : Byt bs) (h : decDE bs = 0) : encDE (decDV bs) = 0 ∧ encDB (decDV bs) = bs ∧ ∀ v ∈ decDV bs, inN v := by
  have h0 : (decTop 7 bs).2 = 0 := by
    unfold decDE at h
    by_cases h0 : (decTop 7 bs).2 = 0
    · exact h0
    · rw [if_neg h0] at h; exact h
  have hv : valsE (decTop 7 bs).1 = 0 := by unfold decDE at h; rw [if_pos h0] at h; exact h
  obtain ⟨c1, c2, c3⟩ := vals_canon 6 (decTop 7 bs).1 (fun x hx => (byt_decTop 7 bs hb x hx).1) hv
  have hc := canonical 7 bs (by omega) hb h0
  have e : decDV bs = valsOf (decTop 7 bs).1 := by
    unfold decDV valsV
    rw [if_pos h0, if_pos hv]
  have o := out_vals 6 (decDV bs)
  have e2 : (decDV bs).map (nodeV 6) = (decTop 7 bs).1 := by rw [e]; exact c2
  have o1 : encOut 1 ((decDV bs).map (nodeV 0)) = bs := o.1.symm.trans ((congrArg (encOut 7) e2).trans hc.2)
  have o2 : encErr 1 ((decDV bs).map (nodeV 0)) = 0 := o.2.symm.trans ((congrArg (encErr 7) e2).trans hc.1)
  have hve : vErr (decDV bs) = 0 := by rw [e]; exact c1
  unfold encDE encDB
  rw [if_pos hve, if_pos hve]
  exact ⟨o2, o1, by rw [e]; exact c3⟩
theorem decDV_bad (bs : List Int) (h : decDE bs ≠ 0) : decDV bs = [] := by
  unfold decDE at h
  unfold decDV valsV
  by_cases h0 : (decTop 7 bs).2 = 0
  · rw [if_pos h0] at h ⊢
    rw [if_neg h]
  · rw [if_neg h0]
end Go.Proofs.Ytjaofbfppnmdjaa
