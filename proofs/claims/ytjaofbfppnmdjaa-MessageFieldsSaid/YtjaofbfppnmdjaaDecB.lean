/- Bit strings out of bytes and back: the plain law of the bits of layer 11. -/
import Derived.Test.YtjaofbfppnmdjaaBitP
import Derived.Test.YtjaofbfppnmdjaaValA
namespace Go.Proofs.Ytjaofbfppnmdjaa
open Go.RowKit

/-- The bit k of the bytes behind the first one. -/
def bitAt (D : List Int) (k : Nat) : Bool := (D.getD (1 + k / 8) 0).toNat.testBit (7 - k % 8)
/-- The number of bits. -/
def cntB (D : List Int) : Nat := 8 * (D.length - 1) - (D.getD 0 0).toNat
def bitsOf (D : List Int) : List Bool := (List.range (cntB D)).map (bitAt D)
/-- Are bytes those of a bit string? -/
def bitsOk (D : List Int) : Prop := 1 ≤ D.length ∧ D.length ≤ 9 ∧ D.getD 0 0 ≤ 7 ∧ (D.getD 0 0).toNat ≤ 8 * (D.length - 1) ∧ ∀ k, cntB D ≤ k → k < 8 * (D.length - 1) → bitAt D k = false
theorem bitsB_len' (s : ByteArray) : (bitsB s).length = 1 + (s.size + 7) / 8 := by simp [bitsB]; omega
theorem bitsB_d0 (s : ByteArray) : (bitsB s).getD 0 0 = (padB s.size : Int) := rfl
theorem bitsB_at (s : ByteArray) (j : Nat) (h : j < (s.size + 7) / 8) : (bitsB s).getD (1 + j) 0 = bitV s s.size j := by
  rw [List.getD_eq_getElem?_getD, Nat.add_comm]
  simp [bitsB, h]
theorem bitAt_bitsB (s : ByteArray) (k : Nat) (h : k < 8 * ((s.size + 7) / 8)) : bitAt (bitsB s) k = decide (k < s.size ∧ s.data.toList.getD k 0 = 49) := by
  unfold bitAt
  rw [bitsB_at s (k / 8) (by omega), bitV_test s (k % 8) (Nat.mod_lt _ (by omega)), show 8 * (k / 8) + k % 8 = k by omega]
theorem cnt_bitsB (s : ByteArray) : cntB (bitsB s) = s.size := by
  unfold cntB
  rw [bitsB_len', bitsB_d0, Int.toNat_natCast]
  unfold padB
  omega
theorem strL_bits (s : ByteArray) (h : bitB s = true) : strL ((List.range s.size).map fun k => decide (k < s.size ∧ s.data.toList.getD k 0 = 49)) = s := by
  rw [bytes_eq, ByteArray.toList_eq, ByteArray.toList_eq]
  have hsz : s.size = s.data.toList.length := rfl
  apply List.ext_getElem
  · show (strL _).size = s.size
    rw [strL_size, List.length_map, List.length_range]
  · intro i h1 h2
    have hi : i < s.size := by rw [hsz]; exact h2
    have hb := (bitB_iff s).1 h i hi
    have e : s.data.toList.getD i 0 = s[i] := by
      rw [List.getD_eq_getElem?_getD, List.getElem?_eq_getElem h2]
      rfl
    simp only [strL, List.getElem_map, List.getElem_range, e, hi, true_and]
    have e2 : s.data.toList[i] = s[i] := rfl
    rw [e2]
    simp only [Bool.or_eq_true, beq_iff_eq] at hb
    rcases hb with hb | hb
    · rw [hb]; rfl
    · rw [hb]; rfl
/-- A bit string reads back from its bytes. -/
theorem bits_back (s : ByteArray) (h : bitB s = true) (h64 : s.size ≤ 64) : bitsOk (bitsB s) ∧ strL (bitsOf (bitsB s)) = s := by
  have hp := padB_le s.size
  constructor
  · refine ⟨by rw [bitsB_len']; omega, by rw [bitsB_len']; omega, by rw [bitsB_d0]; omega, ?_, fun k h1 h2 => ?_⟩
    · rw [bitsB_len', bitsB_d0, Int.toNat_natCast]; unfold padB; omega
    · rw [cnt_bitsB] at h1
      rw [bitsB_len'] at h2
      rw [bitAt_bitsB s k (by omega)]
      exact decide_eq_false (fun h => by omega)
  · rw [← strL_bits s h]
    congr 1
    unfold bitsOf
    rw [strL_bits s h, cnt_bitsB]
    apply List.ext_getElem (by simp)
    intro i h1 h2
    simp only [List.getElem_map, List.getElem_range]
    exact bitAt_bitsB s i (by simp at h1; omega)
theorem byte_ext (a b : Int) (ha : 0 ≤ a ∧ a ≤ 255) (hb : 0 ≤ b ∧ b ≤ 255) (h : ∀ r, r < 8 → a.toNat.testBit (7 - r) = b.toNat.testBit (7 - r)) : a = b := by
  have : a.toNat = b.toNat := by
    apply Nat.eq_of_testBit_eq
    intro i
    rcases Nat.lt_or_ge i 8 with hi | hi
    · have := h (7 - i) (by omega)
      rw [show 7 - (7 - i) = i by omega] at this
      exact this
    · have hp : 2 ^ 8 ≤ 2 ^ i := Nat.pow_le_pow_right (by omega) hi
      rw [Nat.testBit_lt_two_pow (by omega), Nat.testBit_lt_two_pow (by omega)]
  omega
/-- Bytes of a bit string are those of it. -/
theorem bits_canon (D : List Int) (hb : Byt D) (h : bitsOk D) : bitsB (strL (bitsOf D)) = D ∧ (bitsOf D).length ≤ 64 := by
  obtain ⟨h1, h9, h7, hc, hz⟩ := h
  have hd0 : 0 ≤ D.getD 0 0 := by
    match D, h1 with
    | x :: r, _ => exact (hb x (by simp)).1
  have hl : (bitsOf D).length = cntB D := by simp [bitsOf]
  have hsz : (strL (bitsOf D)).size = cntB D := by rw [strL_size, hl]
  have hcnt : cntB D = 8 * (D.length - 1) - (D.getD 0 0).toNat := rfl
  have hn : (cntB D + 7) / 8 = D.length - 1 := by omega
  refine ⟨?_, by omega⟩
  apply List.ext_getElem (by rw [bitsB_len', hsz]; omega)
  intro i hi1 hi2
  have e1 : (bitsB (strL (bitsOf D)))[i] = (bitsB (strL (bitsOf D))).getD i 0 := by rw [List.getD_eq_getElem?_getD, List.getElem?_eq_getElem hi1]; rfl
  have e2 : D[i] = D.getD i 0 := by rw [List.getD_eq_getElem?_getD, List.getElem?_eq_getElem hi2]; rfl
  have hDi := hb _ (List.getElem_mem hi2)
  rw [e2] at hDi
  rw [e1, e2]
  rcases Nat.eq_zero_or_pos i with hi | hi
  · subst hi
    rw [bitsB_d0, hsz]
    unfold padB
    omega
  · obtain ⟨j, rfl⟩ : ∃ j, i = 1 + j := ⟨i - 1, by omega⟩
    have hj : j < (cntB D + 7) / 8 := by omega
    rw [bitsB_at _ j (by rw [hsz]; exact hj)]
    refine byte_ext _ _ (bitV_le _ _ _) hDi fun r hr => ?_
    rw [bitV_test _ r hr]
    have hbt : (D.getD (1 + j) 0).toNat.testBit (7 - r) = bitAt D (8 * j + r) := by
      unfold bitAt
      rw [show (8 * j + r) / 8 = j by omega, show (8 * j + r) % 8 = r by omega]
    rw [hbt, hsz]
    rcases Nat.lt_or_ge (8 * j + r) (cntB D) with h | h
    · have hg : (strL (bitsOf D)).data.toList.getD (8 * j + r) 0 = 49 ↔ bitAt D (8 * j + r) = true := by
        rw [strL_get]
        simp [bitsOf, h]
      rw [Bool.eq_iff_iff, decide_eq_true_eq, hg]
      exact ⟨fun h => h.2, fun h' => ⟨h, h'⟩⟩
    · rw [hz _ h (by omega)]
      exact decide_eq_false (fun h' => by omega)
end Go.Proofs.Ytjaofbfppnmdjaa
