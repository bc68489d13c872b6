/- The walk of the statement TlvDecodes. -/
import Derived.Test.YtojiddkaeoifcaaTlvK
import Derived.Test.YtojiddkaeoifcaaTlvSR
import Derived.Test.YtojiddkaeoifcaaTlvTo
namespace Go.Proofs.Ytojiddkaeoifcaa
open Go.RowKit
attribute [local go_sem ↓] Go.wp_at_zero Go.wp_at_succ

/-- What is decoded is no more than what came in. -/
theorem decF_cnt {α : Type} (ck : List α → Nat) (d : Int) (kid : List Int → List α × Int) (hk : ∀ b, ck (kid b).1 ≤ b.length) (hnil : ck [] = 0) : ∀ (f : Nat) (b : List Int), b.length ≤ f → cntS ck (decF d kid f b).1 ≤ b.length
  | 0, b, _ => by simp [decF, cntS]
  | f + 1, b, hf => by
    unfold decF
    split
    · simp [cntS]
    rename_i h0
    split
    · simp [cntS]
    rename_i h1
    split
    · simp [cntS]
    split
    · simp [cntS]
    have hk1 := hd_ok h0 (Classical.not_not.1 h1)
    have ih := decF_cnt ck d kid hk hnil f (b.drop ((hd b d).2.1 + (hd b d).2.2.1)) (by simp; omega)
    have hx : ((b.drop (hd b d).2.1).take (hd b d).2.2.1).length = (hd b d).2.2.1 := by simp; omega
    have hkk := hk ((b.drop (hd b d).2.1).take (hd b d).2.2.1)
    unfold cntS at ih ⊢
    simp only [List.length_cons, List.map_cons, List.sum_cons, List.length_drop] at ih ⊢
    split <;> simp only [List.length_nil] <;> omega
theorem cntN_nil' : ∀ n, cntN n [] = 0
  | 0 => rfl
  | _ + 1 => rfl
theorem decN_cnt : ∀ (n : Nat) (d : Int) (b : List Int), cntN n (decN n d b).1 ≤ b.length
  | 0, _, _ => Nat.zero_le _
  | n + 1, d, b => decF_cnt (cntN n) d (decN n (d + 1)) (fun b => decN_cnt n (d + 1) b) (cntN_nil' n) b.length b (Nat.le_refl _)
theorem decTop_cnt (n : Nat) (b : List Int) : cntN n (decTop n b).1 ≤ 1500 := by
  unfold decTop
  split
  · rw [cntN_nil']; omega
  · have := decN_cnt n 0 b; omega

set_option maxHeartbeats 4000000 in
theorem decodes_walk (bs : List Int) (v : Value) (w : World) (h : RB Any w v bs) : Calls Try.prog 5 #[v] w fun e w' => e = .returned (.bool true) ∧ Ext w w' := by
  have hk := Lib.hid (known10_any w)
  have dp := Lib.hid (fun w1 (he : Ext w w1) => decodeP_any 7 bs v w1 (by omega) (h.ext he))
  have dr := Lib.hid (fun w1 (he : Ext w w1) => decodeR_any 7 bs v w1 (by omega) (h.ext he))
  have hc := decTop_cnt 7 bs
  have ht := Lib.hid (fun w1 v1 (h1 : (RkN 7).rk Any w1 v1 (decTop 7 bs).1) => to_any 7 Any (decTop 7 bs).1 v1 w1 h1 (fun _ h => h.elim) (by omega))
  have hs := Lib.hid (fun w1 u1 v1 (h1 : (RkN 7).rk Any w1 u1 (decTop 7 bs).1) (h2 : (RkN 7).rk Any w1 v1 (decTop 7 bs).1) => (((sameN_iff 7 _ _).2 rfl) ▸ sameR_any 7 _ _ u1 v1 w1 h1 h2 : Calls Try.prog 20 #[u1, v1] w1 fun e w' => e = .returned (.bool true) ∧ Ext w1 w'))
  obtain ⟨a, c, rfl, _, _⟩ := h.form
  clear h hc
  generalize decTop 7 bs = z at *
  obtain ⟨l, er⟩ := z
  simp only at *
  generalize hm : bs.length = m at *
  go_enter Try.func5, Try.ntmps5
  go_wp2_with fail
  refine hk.out.mono ?_
  rintro e w1 ⟨rfl, he1⟩
  go_wp2_with fail
  refine (dp.out _ he1).mono ?_
  rintro e w2 ⟨a2, c2, rfl, he2, hr2⟩
  go_wp2_with fail
  refine (dr.out _ (he1.trans he2)).mono ?_
  rintro e w3 ⟨a3, c3, rfl, he3, hr3⟩
  have k2 := Lib.hid ((RkN 7).ext (hr2 Any (fun _ h => h.elim)) he3)
  have k3 := Lib.hid (hr3 Any (fun _ h => h.elim))
  clear hr2 hr3
  go_wp2_with fail
  refine (ht.out _ _ k2.out).mono ?_
  rintro e w4 ⟨a4, c4, rfl, he4, hr4⟩
  go_wp2_with fail
  refine (hs.out _ _ _ hr4 ((RkN 7).ext k3.out he4)).mono ?_
  rintro e w5 ⟨rfl, he5⟩
  go_wp2_with fail
  go_ret
  exact ⟨rfl, (((he1.trans he2).trans he3).trans he4).trans he5⟩
end Go.Proofs.Ytojiddkaeoifcaa
