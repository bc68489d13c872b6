/- Values out of tags and bytes: the plain law of layer 11. -/
import Derived.Test.YtjaofbfppnmdjaaDecI
import Derived.Test.YtjaofbfppnmdjaaDecB
import Derived.Test.YtjaofbfppnmdjaaDatC
import Derived.Test.YtjaofbfppnmdjaaStr
namespace Go.Proofs.Ytjaofbfppnmdjaa
open Go.RowKit

/-- No string. -/
abbrev noStr : ByteArray := ⟨#[]⟩
open Classical in
/-- The value that a tag and bytes are. -/
noncomputable def readV (t : Int) (D : List Int) : Option Val :=
  if t = 131 then (if D.length = 1 ∧ D.getD 0 0 ≤ 1 then some ⟨1, D.getD 0 0, noStr, 0, 0, 0⟩ else none)
  else if t = 132 then (if bitsOk D then some ⟨3, 0, strL (bitsOf D), 0, 0, 0⟩ else none)
  else if t = 133 then (if 1 ≤ D.length ∧ D.length ≤ 8 ∧ spareB D = false then some ⟨2, sgnV D, noStr, 0, 0, 0⟩ else none)
  else if t = 138 then (if D.length ≤ 64 then some ⟨4, 0, strOfNums D, 0, 0, 0⟩ else none)
  else if t = 145 then (if D.length = 8 then some ⟨5, 0, noStr, joinU (D.take 4), joinU ((D.drop 4).take 3), D.getD 7 0⟩ else none)
  else none
/-- The kind of a tag, or 0. -/
def kindT (t : Int) : Int := if t = 131 then 1 else if t = 132 then 3 else if t = 133 then 2 else if t = 138 then 4 else if t = 145 then 5 else 0
theorem strB_of (D : List Int) (hb : Byt D) : strB (strOfNums D) = D := by
  unfold strB
  have h : (strOfNums D).data.toList = D.map (fun i => UInt8.ofNat i.toNat) := by
    rw [← ByteArray.toList_eq, Lib.strOfNums_toList]
    rfl
  rw [h, List.map_map]
  conv => rhs; rw [← List.map_id D]
  apply List.map_congr_left
  intro x hx
  have := hb x hx
  simp only [Function.comp, UInt8.toNat_ofNat', id]
  omega
theorem of_strB (s : ByteArray) : strOfNums (strB s) = s := by
  rw [bytes_eq, Lib.strOfNums_toList, ByteArray.toList_eq]
  unfold strB Lib.bytesOf
  rw [List.map_map]
  conv => rhs; rw [← List.map_id s.data.toList]
  apply List.map_congr_left
  intro x _
  simp
theorem noStr_of {v : Val} (h : noS v = true) : v.s = noStr := by
  unfold noS at h
  rw [bytes_eq]
  have : v.s.toList = [] := by simpa using h
  rw [this, ByteArray.toList_eq]
theorem noT_of {v : Val} (h : noT v = true) : v.sec = 0 ∧ v.frac = 0 ∧ v.qual = 0 := by
  unfold noT at h
  simpa [and_assoc] using h
theorem noS_empty (k n a b c : Int) : noS ⟨k, n, noStr, a, b, c⟩ = true := by unfold noS; simp [ByteArray.toList_eq]
theorem st_ok {a b c : Int} (h : stErr a b c = 0) : 0 ≤ a ∧ a ≤ 4294967295 ∧ 0 ≤ b ∧ b ≤ 16777215 ∧ 0 ≤ c ∧ c ≤ 255 := by
  unfold stErr at h
  split at h
  · omega
  · omega
theorem take_three (a b c : Int) : (numB a 4 ++ numB b 3 ++ numB c 1).take 4 = numB a 4 ∧ ((numB a 4 ++ numB b 3 ++ numB c 1).drop 4).take 3 = numB b 3 ∧ (numB a 4 ++ numB b 3 ++ numB c 1).getD 7 0 = c % 256 := by
  have h4 := numB_len a 4
  have h3 := numB_len b 3
  rw [List.append_assoc]
  refine ⟨by rw [List.take_append_of_le_length (by omega), List.take_of_length_le (by omega)], by rw [List.drop_append_of_le_length (by omega), List.drop_of_length_le (by omega), List.nil_append, List.take_append_of_le_length (by omega), List.take_of_length_le (by omega)], ?_⟩
  rw [List.getD_eq_getElem?_getD, List.getElem?_append_right (by omega), h4, List.getElem?_append_right (by omega), h3, numB_one]
  rfl
/-- A value reads back from its tag and bytes. -/
theorem readV_back (v : Val) (h : chk v = 0) (hn : -9223372036854775808 ≤ v.n ∧ v.n ≤ 9223372036854775807) : readV (tagV v) (datV v) = some v := by
  have hk := chk_kind h
  obtain ⟨k, n, s, a, b, c⟩ := v
  simp only [isKind, Bool.and_eq_true, decide_eq_true_eq] at hk
  unfold chk at h
  simp only at h hn
  obtain rfl | rfl | rfl | rfl | rfl : k = 1 ∨ k = 2 ∨ k = 3 ∨ k = 4 ∨ k = 5 := by omega
  · rw [if_pos rfl] at h
    split at h
    · rename_i h2
      rw [Bool.and_eq_true] at h2
      have e1 := noStr_of h2.1
      have e2 := noT_of h2.2
      simp only at e1 e2
      obtain ⟨rfl, rfl, rfl⟩ := e2
      subst e1
      split at h
      · rename_i h3
        show readV 131 (numB n 1) = _
        unfold readV
        rw [if_pos rfl, numB_one]
        rcases h3 with rfl | rfl <;> rfl
      · omega
    · omega
  · rw [if_neg (by omega), if_pos rfl] at h
    split at h
    · rename_i h2
      rw [Bool.and_eq_true] at h2
      have e1 := noStr_of h2.1
      have e2 := noT_of h2.2
      simp only at e1 e2
      obtain ⟨rfl, rfl, rfl⟩ := e2
      subst e1
      show readV 133 (numB n (intLen n)) = _
      have hb := int_back n hn.1 hn.2
      have hl := intLen_le n
      unfold readV
      rw [if_neg (by omega), if_neg (by omega), if_pos rfl, if_pos ⟨by rw [numB_len]; exact hl.1, by rw [numB_len]; exact hl.2, hb.2⟩, hb.1]
    · omega
  · rw [if_neg (by omega), if_neg (by omega), if_pos rfl] at h
    split at h
    · rename_i h2
      rw [Bool.and_eq_true] at h2
      have e2 := noT_of h2.2
      have e1 : n = 0 := by simpa [noN] using h2.1
      simp only at e2
      obtain ⟨rfl, rfl, rfl⟩ := e2
      subst e1
      unfold bitErr at h
      split at h
      · omega
      · split at h
        · rename_i h3 h4
          show readV 132 (bitsB s) = _
          have hb := bits_back s h4 (by omega)
          unfold readV
          rw [if_neg (by omega), if_pos rfl, if_pos hb.1, hb.2]
        · omega
    · omega
  · rw [if_neg (by omega), if_neg (by omega), if_neg (by omega), if_pos rfl] at h
    split at h
    · rename_i h2
      rw [Bool.and_eq_true] at h2
      have e2 := noT_of h2.2
      have e1 : n = 0 := by simpa [noN] using h2.1
      simp only at e2
      obtain ⟨rfl, rfl, rfl⟩ := e2
      subst e1
      split at h
      · omega
      · show readV 138 (strB s) = _
        unfold readV
        rw [if_neg (by omega), if_neg (by omega), if_neg (by omega), if_pos rfl, if_pos (by rw [strB_len]; omega), of_strB]
    · omega
  · rw [if_neg (by omega), if_neg (by omega), if_neg (by omega), if_neg (by omega), if_pos rfl] at h
    split at h
    · rename_i h2
      rw [Bool.and_eq_true] at h2
      have e2 := noStr_of h2.2
      have e1 : n = 0 := by simpa [noN] using h2.1
      simp only at e2
      subst e1 e2
      have hs := st_ok h
      show readV 145 (numB a 4 ++ numB b 3 ++ numB c 1) = _
      have ht := take_three a b c
      unfold readV
      rw [if_neg (by omega), if_neg (by omega), if_neg (by omega), if_neg (by omega), if_pos rfl, if_pos (by simp [numB_len]), ht.1, ht.2.1, ht.2.2, joinU_numB, joinU_numB]
      rw [show (2 : Int) ^ (8 * 4) = 4294967296 by decide, show (2 : Int) ^ (8 * 3) = 16777216 by decide]
      rw [Int.emod_eq_of_lt (by omega) (by omega), Int.emod_eq_of_lt (by omega) (by omega), Int.emod_eq_of_lt (by omega) (by omega)]
    · omega
theorem getD_byt {D : List Int} (hb : Byt D) (i : Nat) : 0 ≤ D.getD i 0 ∧ D.getD i 0 ≤ 255 := by
  rw [List.getD_eq_getElem?_getD]
  rcases Nat.lt_or_ge i D.length with h | h
  · rw [List.getElem?_eq_getElem h]
    exact hb _ (List.getElem_mem h)
  · rw [List.getElem?_eq_none h]
    simp
/-- What reads as a value is its tag and bytes. -/
theorem readV_canon (t : Int) (D : List Int) (hb : Byt D) (v : Val) (h : readV t D = some v) : chk v = 0 ∧ tagV v = t ∧ datV v = D ∧ -9223372036854775808 ≤ v.n ∧ v.n ≤ 9223372036854775807 ∧ v.kind = kindT t := by
  unfold readV at h
  split at h
  · rename_i ht
    subst ht
    split at h
    · rename_i h1
      injection h with h
      subst h
      obtain ⟨h1, h2⟩ := h1
      match D, h1 with
      | [x], _ =>
        have hx := hb x (by simp)
        simp only [List.getD_cons_zero] at h2 ⊢
        refine ⟨?_, rfl, ?_, by omega, by omega, rfl⟩
        · unfold chk
          simp only [noS_empty, noT]
          simp
          omega
        · show numB x 1 = [x]
          rw [numB_one]
          congr 1
          omega
    · cases h
  split at h
  · rename_i ht
    subst ht
    split at h
    · rename_i h1
      injection h with h
      subst h
      have hc := bits_canon D hb h1
      exact ⟨strL_chk _ hc.2, rfl, hc.1, by show (-9223372036854775808 : Int) ≤ 0; omega, by show (0 : Int) ≤ 9223372036854775807; omega, rfl⟩
    · cases h
  split at h
  · rename_i ht
    subst ht
    split at h
    · rename_i h1
      injection h with h
      subst h
      have hc := int_canon D hb h1.1 h1.2.1 h1.2.2
      refine ⟨?_, rfl, hc.1, hc.2.1, hc.2.2, rfl⟩
      unfold chk
      simp only [noS_empty, noT]
      simp
    · cases h
  split at h
  · rename_i ht
    subst ht
    split at h
    · rename_i h1
      injection h with h
      subst h
      refine ⟨?_, rfl, strB_of D hb, by show (-9223372036854775808 : Int) ≤ 0; omega, by show (0 : Int) ≤ 9223372036854775807; omega, rfl⟩
      have hs : (strOfNums D).size = D.length := by rw [← strB_len, strB_of D hb]
      unfold chk
      simp only [noN, noT]
      simp [hs, h1]
    · cases h
  split at h
  · rename_i ht
    subst ht
    split at h
    · rename_i h1
      injection h with h
      subst h
      have b4 := joinU_lt (D.take 4) (hb.take 4)
      have b3 := joinU_lt ((D.drop 4).take 3) ((hb.drop 4).take 3)
      have l4 : (D.take 4).length = 4 := by rw [List.length_take]; omega
      have l3 : ((D.drop 4).take 3).length = 3 := by rw [List.length_take, List.length_drop]; omega
      rw [l4, show (2 : Int) ^ (8 * 4) = 4294967296 by decide] at b4
      rw [l3, show (2 : Int) ^ (8 * 3) = 16777216 by decide] at b3
      have b1 := getD_byt hb 7
      refine ⟨?_, rfl, ?_, by show (-9223372036854775808 : Int) ≤ 0; omega, by show (0 : Int) ≤ 9223372036854775807; omega, rfl⟩
      · rw [chk_time]
        unfold stErr
        rw [if_neg (by omega)]
      · show numB (joinU (D.take 4)) 4 ++ numB (joinU ((D.drop 4).take 3)) 3 ++ numB (D.getD 7 0) 1 = D
        have n4 := numB_joinU (D.take 4) (hb.take 4)
        have n3 := numB_joinU ((D.drop 4).take 3) ((hb.drop 4).take 3)
        rw [l4] at n4
        rw [l3] at n3
        rw [n4, n3, numB_one, Int.emod_eq_of_lt b1.1 (by omega)]
        match D, h1 with
        | [x0, x1, x2, x3, x4, x5, x6, x7], _ => rfl
    · cases h
  · cases h
end Go.Proofs.Ytjaofbfppnmdjaa
