/- The walk of the statement DatasetRoundTrip. -/
import Derived.Test.YtjaofbfppnmdjaaDecZ
import Derived.Test.YtjaofbfppnmdjaaDatS
namespace Go.Proofs.Ytjaofbfppnmdjaa
open Go.RowKit
attribute [local go_sem ↓] Go.wp_at_zero Go.wp_at_succ

theorem large_sixty {l : List Val} (h : largeB l = false) : l.length ≤ 60 := by
  unfold largeB at h
  simp only [Bool.or_eq_false_iff, decide_eq_false_iff_not] at h
  omega
theorem encDB_bad {l : List Val} (h : encDE l ≠ 0) : encDB l = [] := by
  unfold encDE at h
  unfold encDB
  by_cases h0 : vErr l = 0
  · rw [if_pos h0] at h ⊢
    exact encOut_bad h
  · rw [if_neg h0]
set_option maxRecDepth 100000 in
set_option maxHeartbeats 8000000 in
theorem dround_walk (l : List Val) (v : Value) (w : World) (hl : RF Any 6 valE w v l) (hn : ∀ x ∈ l, inN x) : Calls Try.prog 8 #[v] w fun e w' => e = .returned (.bool true) ∧ Ext w w' := by
  have HK := Lib.hid (known11_any w)
  have HIN := Lib.hid (fun w1 (he : Ext w w1) => hl.ext he)
  have HLG := Lib.hid (fun w1 (he : Ext w w1) => large11_any l v w1 (hl.ext he))
  obtain ⟨ja, jc, rfl, hj1, hj2⟩ := hl.form
  clear hl
  cases hlg : largeB l
  · have hle := large_sixty hlg
    rw [hlg] at HLG
    have HEP := Lib.hid (fun w1 (he : Ext w w1) => encDP_any l _ w1 (HIN.out w1 he) (by omega))
    by_cases hee : encDE l = 0
    · have hr := round11 l hee hn
      have HDP := Lib.hid (fun w1 vv (h : RB Any w1 vv (encDB l)) => decDP_any (encDB l) vv w1 h)
      rw [hr.1, hr.2] at HDP
      have HAL := Lib.hid (fun w1 (he : Ext w w1) => all11_any l _ w1 (HIN.out w1 he) (by omega))
      have HAX := Lib.hid (fun w1 vv (h : RF Any 6 valE w1 vv l) => all11_any l vv w1 h (by omega))
      have HSM := Lib.hid (fun w1 va vb (h : RF Any 6 valE w1 va l) (h' : RF Any 6 valE w1 vb l) => sameVR_any l l va vb w1 h h')
      rw [decide_eq_true rfl] at HSM
      rw [hee] at HEP
      generalize encDB l = D at *
      obtain ⟨n, hnn⟩ : ∃ n, l.length = n := ⟨_, rfl⟩
      have HN := Lib.hid hnn
      rw [hnn] at hj1 hle HLG HEP HAL ⊢
      clear hnn hlg hn HIN hr hee
      go_enter Try.func8, Try.ntmps8
      go_wp2_with fail
      refine HK.out.mono ?_
      rintro e w1 ⟨rfl, x1⟩
      go_wp2_with fail
      refine (HLG.out _ x1).mono ?_
      rintro e w1' ⟨rfl, rfl⟩
      go_wp2_with fail
      refine (HEP.out _ x1).mono ?_
      rintro e w2 ⟨a2, c2, rfl, x2, r2⟩
      have HD2 := Lib.hid (HDP.out w2 _ (r2 Any (fun _ h => h.elim)))
      have X2 := x1.trans x2
      clear r2 x2
      generalize D.length = dl at *
      go_wp2_with fail
      refine HD2.out.mono ?_
      rintro e w3 ⟨a3, c3, rfl, x3, r3⟩
      have HA3 := Lib.hid (HAX.out w3 _ (r3 Any (fun _ h => h.elim)))
      rw [HN.out] at HA3 ⊢
      have X3 := X2.trans x3
      clear r3 x3
      go_wp2_with fail
      refine HA3.out.mono ?_
      rintro e w4 ⟨a4, c4, he, x4, r4⟩
      rw [HN.out] at he r4
      subst he
      have R4 := Lib.hid (r4.weak (by omega) (V' := Any) (fun _ _ h => h.elim))
      have X4 := X3.trans x4
      clear r4 x4
      go_wp2_with fail
      refine (HAL.out _ X4).mono ?_
      rintro e w5 ⟨a5, c5, he, x5, r5⟩
      rw [HN.out] at he r5
      subst he
      have HS5 := Lib.hid (HSM.out w5 _ _ (R4.out.ext x5) (r5.weak (by omega) (V' := Any) (fun _ _ h => h.elim)))
      have X5 := X4.trans x5
      clear r5 x5
      go_wp2_with fail
      refine HS5.out.mono ?_
      rintro e w6 ⟨rfl, x6⟩
      go_wp2_with fail
      go_ret
      exact ⟨rfl, X5.trans x6⟩
    · rw [encDB_bad hee] at HEP
      have hee2 : (encDE l != 0) = true := by simpa using hee
      generalize encDE l = E at *
      clear hlg hn HIN hee
      generalize l.length = n at *
      go_enter Try.func8, Try.ntmps8
      go_wp2_with fail
      refine HK.out.mono ?_
      rintro e w1 ⟨rfl, x1⟩
      go_wp2_with fail
      refine (HLG.out _ x1).mono ?_
      rintro e w1' ⟨rfl, rfl⟩
      go_wp2_with fail
      refine (HEP.out _ x1).mono ?_
      rintro e w2 ⟨a2, c2, rfl, x2, r2⟩
      clear r2
      go_wp2_with fail
      go_ret
      exact ⟨rfl, x1.trans x2⟩
  · rw [hlg] at HLG
    clear hn HIN hlg
    generalize l.length = n at *
    go_enter Try.func8, Try.ntmps8
    go_wp2_with fail
    refine HK.out.mono ?_
    rintro e w1 ⟨rfl, x1⟩
    go_wp2_with fail
    refine (HLG.out _ x1).mono ?_
    rintro e w2 ⟨rfl, rfl⟩
    go_wp2_with fail
    go_ret
    exact ⟨rfl, x1⟩
end Go.Proofs.Ytjaofbfppnmdjaa
