/- The walk of the statement TlvDecodes. -/
import Derived.Test.YtjaofbfppnmdjaaTlvK
import Derived.Test.YtjaofbfppnmdjaaTlvSR
import Derived.Test.YtjaofbfppnmdjaaTlvTo
namespace Go.Proofs.Ytjaofbfppnmdjaa
open Go.RowKit
attribute [local go_sem ↓] Go.wp_at_zero Go.wp_at_succ

/-- What is decoded is no more than what came in. -/
theorem decF_cnt {α : Type} (ck : List α → Nat) (d : Int) (kid : List Int → List α × Int) (hk : ∀ b, ck (kid b).1 ≤ b.length) (hnil : ck [] = 0) : ∀ (f : Nat) (b : List Int), b.length ≤ f → cntS ck (decF d kid f b).1 ≤ b.length
  | 0, b, _ => by simp [decF, cntS]
  | f + 1, b, hf => by
    unfold decF
    split
    · simp [cntS]
    rename_i h0
    split
    · simp [cntS]
    rename_i h1
    split
    · simp [cntS]
    split
    · simp [cntS]
    have hk1 := hd_ok h0 (Classical.not_not.1 h1)
    have ih := decF_cnt ck d kid hk hnil f (b.drop ((hd b d).2.1 + (hd b d).2.2.1)) (by simp; omega)
    have hx : ((b.drop (hd b d).2.1).take (hd b d).2.2.1).length = (hd b d).2.2.1 := by simp; omega
    have hkk := hk ((b.drop (hd b d).2.1).take (hd b d).2.2.1)
    unfold cntS at ih ⊢
    simp only [List.length_cons, List.map_cons, List.sum_cons, List.length_drop] at ih ⊢
    split <;> simp only [List.length_nil] <;> omega
theorem cntN_nil' : ∀ n, cntN n [] = 0
  | 0 => rfl
  | _ + 1 => rfl
theorem decN_cnt : ∀ (n : Nat) (d : Int) (b : List Int), cntN n (decN n d b).1 ≤ b.length
  | 0, _, _ => Nat.zero_le _
  | n + 1, d, b => decF_cnt (cntN n) d (decN n (d + 1)) (fun b => decN_cnt n (d + 1) b) (cntN_nil' n) b.length b (Nat.le_refl _)
theorem decTop_cnt (n : Nat) (b : List Int) : cntN n (decTop n b).1 ≤ 1500 := by
  unfold decTop
  split
  · rw [cntN_nil']; omega
  · have := decN_cnt n 0 b; omega

end Go.Proofs.Ytjaofbfppnmdjaa
