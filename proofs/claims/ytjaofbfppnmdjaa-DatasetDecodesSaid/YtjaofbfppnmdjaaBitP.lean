/- The bits of a bit string's bytes: the plain law of DatasetBits. -/
import Derived.Test.YtjaofbfppnmdjaaDatB
import Derived.Test.YtjaofbfppnmdjaaOpenBool
namespace Go.Proofs.Ytjaofbfppnmdjaa
open Go.RowKit

def strL (l : List Bool) : ByteArray := ⟨(l.map fun b => if b then (49 : UInt8) else 48).toArray⟩
theorem strL_size (l : List Bool) : (strL l).size = l.length := by simp [strL, ByteArray.size]
theorem strL_get (l : List Bool) (i : Nat) : (strL l).data.toList.getD i 0 = 49 ↔ l[i]? = some true := by
  simp only [strL, List.getD_eq_getElem?_getD, List.getElem?_map]
  cases h : l[i]? with
  | none => simp
  | some b => cases b <;> simp
theorem strL_snoc (l : List Bool) (b : Bool) : strL (l ++ [b]) = strL l ++ ⟨#[if b then 49 else 48]⟩ := by
  rw [bytes_eq, ByteArray.toList_eq, ByteArray.toList_eq, ByteArray.data_append]
  simp [strL]
theorem strL_chk (l : List Bool) (h : l.length ≤ 64) : chk ⟨3, 0, strL l, 0, 0, 0⟩ = 0 := by
  have hb : bitB (strL l) = true := by
    unfold bitB
    rw [ByteArray.toList_eq, List.all_eq_true]
    intro x hx
    simp only [strL, List.mem_map] at hx
    obtain ⟨b, _, rfl⟩ := hx
    cases b <;> rfl
  unfold chk noN noT bitErr
  simp only [hb]
  rw [strL_size, if_neg (show ¬ 64 < l.length by omega)]
  simp
theorem orB_nat (x : Int) (k : Nat) (h0 : 0 ≤ x) (h1 : x ≤ 255) : (orB x k).toNat = x.toNat ||| 2 ^ (7 - k % 8) := by
  have h : orB x k = IntKind.u8.wrap (((BitVec.ofInt 8 x ||| BitVec.ofInt 8 (128 / 2 ^ (k % 8))).toNat : Nat) : Int) := rfl
  have hlt := (BitVec.ofInt 8 x ||| BitVec.ofInt 8 (128 / 2 ^ (k % 8))).isLt
  have e8 : ((2 ^ 8 : Nat) : Int) = 256 := by decide
  rw [h, IntKind.wrap_u8]
  have hn : (((BitVec.ofInt 8 x ||| BitVec.ofInt 8 (128 / 2 ^ (k % 8))).toNat : Nat) : Int) % 256 = ((BitVec.ofInt 8 x ||| BitVec.ofInt 8 (128 / 2 ^ (k % 8))).toNat : Nat) := by omega
  rw [hn, Int.toNat_natCast, BitVec.toNat_or, BitVec.toNat_ofInt, BitVec.toNat_ofInt, e8, show (x % 256).toNat = x.toNat by omega]
  have hk : k % 8 < 8 := Nat.mod_lt _ (by omega)
  have : ∀ r : Fin 8, ((128 : Int) / 2 ^ r.1 % 256).toNat = 2 ^ (7 - r.1) := by decide
  rw [this ⟨k % 8, hk⟩]
theorem bitV_test (s : ByteArray) (r : Nat) (hr : r < 8) : ∀ k j, (bitV s k j).toNat.testBit (7 - r) = decide (8 * j + r < k ∧ s.data.toList.getD (8 * j + r) 0 = 49)
  | 0, j => by simp [bitV]
  | k + 1, j => by
    have ih := bitV_test s r hr k j
    have hb := bitV_le s k j
    simp only [bitV]
    by_cases hk : k = 8 * j + r
    · subst hk
      have h1 : (8 * j + r) / 8 = j := by omega
      have h2 : (8 * j + r) % 8 = r := by omega
      by_cases h49 : s.data.toList.getD (8 * j + r) 0 = 49
      · rw [if_pos ⟨h1, h49⟩, orB_nat _ _ hb.1 hb.2, Nat.testBit_or, h2, Nat.testBit_two_pow, decide_eq_true (show 8 * j + r < 8 * j + r + 1 ∧ s.data.toList.getD (8 * j + r) 0 = 49 from ⟨by omega, h49⟩)]
        simp
      · rw [if_neg (fun h => h49 h.2), ih, decide_eq_false (fun h => h49 h.2), decide_eq_false (fun h => h49 h.2)]
    · have e : (8 * j + r < k + 1 ∧ s.data.toList.getD (8 * j + r) 0 = 49) ↔ (8 * j + r < k ∧ s.data.toList.getD (8 * j + r) 0 = 49) := by
        constructor
        · intro h; exact ⟨by omega, h.2⟩
        · intro h; exact ⟨by omega, h.2⟩
      rw [decide_eq_decide.2 e]
      split
      · rename_i h
        rw [orB_nat _ _ hb.1 hb.2, Nat.testBit_or, Nat.testBit_two_pow, ih, show decide (7 - k % 8 = 7 - r) = false by simp; omega, Bool.or_false]
      · exact ih
theorem and_one (x : Int) (h0 : 0 ≤ x) (h1 : x ≤ 255) : bits .and .u8 x 1 = x % 2 := by
  have h : bits .and .u8 x 1 = IntKind.u8.wrap (((BitVec.ofInt 8 x &&& BitVec.ofInt 8 1).toNat : Nat) : Int) := rfl
  have e8 : ((2 ^ 8 : Nat) : Int) = 256 := by decide
  rw [h, IntKind.wrap_u8, BitVec.toNat_and, BitVec.toNat_ofInt, BitVec.toNat_ofInt, e8, show ((1 : Int) % 256).toNat = 2 ^ 1 - 1 by decide, Nat.and_two_pow_sub_one_eq_mod]
  omega
/-- The bit i. -/
theorem bit_at (l : List Bool) (i : Nat) (b : Bool) (hb : b = (l[i]? == some true)) : bits .and .u8 (bitV (strL l) l.length (i / 8) / 2 ^ (7 - i % 8)) 1 = if b then 1 else 0 := by
  have hle := bitV_le (strL l) l.length (i / 8)
  have ht := bitV_test (strL l) (i % 8) (Nat.mod_lt _ (by omega)) l.length (i / 8)
  rw [show 8 * (i / 8) + i % 8 = i by omega, Nat.testBit_eq_decide_div_mod_eq] at ht
  obtain ⟨X, hX⟩ : ∃ X : Nat, bitV (strL l) l.length (i / 8) = X := ⟨_, (Int.toNat_of_nonneg hle.1).symm⟩
  rw [hX] at ht hle ⊢
  rw [Int.toNat_natCast] at ht
  have hdiv : ((X : Int) / 2 ^ (7 - i % 8)) = ((X / 2 ^ (7 - i % 8) : Nat) : Int) := by rw [Int.natCast_ediv]; congr 1
  have hd2 : X / 2 ^ (7 - i % 8) ≤ X := Nat.div_le_self _ _
  rw [hdiv]
  generalize X / 2 ^ (7 - i % 8) = Y at *
  rw [and_one _ (by omega) (by omega)]
  have hiff : (i < l.length ∧ (strL l).data.toList.getD i 0 = 49) ↔ b = true := by
    rw [strL_get, hb, beq_iff_eq]
    constructor
    · exact fun h => h.2
    · exact fun h => ⟨get_lt h, h⟩
  cases b
  · have h3 : ¬ (Y % 2 = 1) := fun h => by
      have := (decide_eq_decide.1 ht).1 h
      have := hiff.1 this
      cases this
    simp only [Bool.false_eq_true, if_false]
    omega
  · have h3 : Y % 2 = 1 := (decide_eq_decide.1 ht).2 (hiff.2 rfl)
    simp only [if_true]
    omega
end Go.Proofs.Ytjaofbfppnmdjaa
