/- The walk of the statement DatasetCanonical. -/
import Derived.Test.YtjaofbfppnmdjaaDecZ
namespace Go.Proofs.Ytjaofbfppnmdjaa
open Go.RowKit
attribute [local go_sem ↓] Go.wp_at_zero Go.wp_at_succ

set_option maxRecDepth 100000 in
set_option maxHeartbeats 8000000 in
theorem dcanon_walk (bs : List Int) (v : Value) (w : World) (hb : RB Any w v bs) : Calls Try.prog 9 #[v] w fun e w' => e = .returned (.bool true) ∧ Ext w w' := by
  have HK := Lib.hid (known11_any w)
  have HDP := Lib.hid (fun w1 (he : Ext w w1) => decDP_any bs v w1 (hb.ext he))
  have HIN := Lib.hid (fun w1 (he : Ext w w1) => hb.ext he)
  have hcan := canon11 bs hb.byt
  have hbad := decDV_bad bs
  have hlen : (decDV bs).length ≤ 1000000 := by
    unfold decDV
    split
    · unfold valsV
      split
      · rename_i h1
        rw [valsV_len _ h1]
        exact Nat.le_trans (Nat.le_trans (Nat.le_add_right _ _) (decTop_cnt 7 bs)) (by omega)
      · simp
    · simp
  obtain ⟨ja, jc, rfl, hj1, hj2⟩ := hb.form
  clear hb
  by_cases hee : decDE bs = 0
  · obtain ⟨h1, h2, _⟩ := hcan hee
    have HEP := Lib.hid (fun w1 vv (h : RF Any 6 valE w1 vv (decDV bs)) => encDP_any (decDV bs) vv w1 h hlen)
    rw [h1, h2] at HEP
    rw [hee] at HDP
    clear hcan hbad h1 h2 hee
    generalize decDV bs = L at *
    generalize L.length = k at *
    generalize hn : bs.length = n at *
    have HN := Lib.hid hn
    clear hn
    go_enter Try.func9, Try.ntmps9
    go_wp2_with fail
    refine HK.out.mono ?_
    rintro e w1 ⟨rfl, x1⟩
    go_wp2_with fail
    refine (HDP.out _ x1).mono ?_
    rintro e w2 ⟨a2, c2, rfl, x2, r2⟩
    have HE2 := Lib.hid (HEP.out w2 _ (r2 Any (fun _ h => h.elim)))
    have X2 := x1.trans x2
    clear r2 x2
    generalize L.length = k2 at *
    go_wp2_with fail
    refine HE2.out.mono ?_
    rintro e w3 ⟨a3, c3, rfl, x3, r3⟩
    have R3 := Lib.hid (r3 Any (fun _ h => h.elim))
    have X3 := X2.trans x3
    have hc1 := R3.out.conv (P := Try.prog) 25 9 5 Try.underlying25 Try.underlying5 Try.underlying9
    have hc2 := (HIN.out w3 X3).conv (P := Try.prog) 25 9 5 Try.underlying25 Try.underlying5 Try.underlying9
    generalize strOfNums bs = S at *
    rw [HN.out] at hc1 ⊢
    clear r3 x3 R3 HE2 HEP
    go_wp2_with fail
    go_ret
    exact ⟨rfl, X3⟩
  · rw [hbad hee] at HDP
    have hee2 : (decDE bs != 0) = true := by simpa using hee
    clear hcan hbad hee hlen
    generalize decDE bs = E at *
    generalize bs.length = n at *
    go_enter Try.func9, Try.ntmps9
    go_wp2_with fail
    refine HK.out.mono ?_
    rintro e w1 ⟨rfl, x1⟩
    go_wp2_with fail
    refine (HDP.out _ x1).mono ?_
    rintro e w2 ⟨a2, c2, rfl, x2, r2⟩
    clear r2
    go_wp2_with fail
    go_ret
    exact ⟨rfl, x1.trans x2⟩
end Go.Proofs.Ytjaofbfppnmdjaa
