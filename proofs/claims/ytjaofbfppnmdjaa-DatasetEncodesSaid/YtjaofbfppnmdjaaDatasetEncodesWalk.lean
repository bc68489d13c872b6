/- The walk of the statement DatasetEncodes. -/
import Derived.Test.YtjaofbfppnmdjaaDatU
import Derived.Test.YtjaofbfppnmdjaaTlvSR
namespace Go.Proofs.Ytjaofbfppnmdjaa
open Go.RowKit
attribute [local go_sem ↓] Go.wp_at_zero Go.wp_at_succ

theorem large_no {l : List Val} (h : largeB l = false) : l.length ≤ 60 := by
  unfold largeB at h
  simp only [Bool.or_eq_false_iff, decide_eq_false_iff_not] at h
  omega
/-- The same nodes, turned and compared. -/
theorem same_nodes (L : List (Nd 1)) (hc : cntN 1 L ≤ 1000000000) (w1 : World) (vx vy : Value) (hx : (RkN 1).rk Any w1 vx L) (hy : (RkN 1).rk Any w1 vy L) :
    Calls Try.prog 23 #[vx] w1 (fun e w2 => ∃ a c n, e = .returned (.slice a n c) ∧ Ext w1 w2 ∧ Calls Try.prog 22 #[.slice a n c, vy] w2 fun e w3 => e = .returned (.bool true) ∧ Ext w2 w3) := by
  refine (to_any 1 Any L vx w1 hx (fun k h => h.elim) hc).mono fun e w2 ⟨a, c, he, hx2, hr⟩ => ⟨a, c, _, he, hx2, ?_⟩
  refine (sameR_any 1 L L _ vy w2 hr ((RkN 1).ext hy hx2)).mono fun e w3 h3 => ?_
  rw [(sameN_iff 1 L L).2 rfl] at h3
  exact h3
set_option maxRecDepth 100000 in
set_option maxHeartbeats 8000000 in
theorem encodes_walk (l : List Val) (v : Value) (w : World) (hl : RF Any 6 valE w v l) : Calls Try.prog 3 #[v] w fun e w' => e = .returned (.bool true) ∧ Ext w w' := by
  have HK := Lib.hid (known11_any w)
  have HIN := Lib.hid (fun w1 (he : Ext w w1) => hl.ext he)
  have HLG := Lib.hid (fun w1 (he : Ext w w1) => large11_any l v w1 (hl.ext he))
  obtain ⟨ja, jc, rfl, hj1, hj2⟩ := hl.form
  clear hl
  cases hlg : largeB l
  · have hle := large_no hlg
    rw [hlg] at HLG
    have HEP := Lib.hid (fun w1 (he : Ext w w1) => encDP_any l _ w1 (HIN.out w1 he) (by omega))
    have HAL := Lib.hid (fun w1 (he : Ext w w1) => all11_any l _ w1 (HIN.out w1 he) (by omega))
    have HER := Lib.hid (fun w1 vv (h : RF Any 6 valE w1 vv l) => encDR_any l vv w1 h (by omega))
    have HNP := Lib.hid (fun w1 (he : Ext w w1) => nodesP_any 0 l _ w1 (HIN.out w1 he) (by omega))
    have HNR := Lib.hid (fun w1 vv (h : RF Any 6 valE w1 vv l) => nodesR_any 0 l vv w1 h (by omega))
    generalize encDB l = D at *
    generalize encDE l = E at *
    have HD : Hid (∀ w1, Ext w w1 → Calls Try.prog 20 #[.slice ja l.length jc] w1 fun e w2 => ∃ a c n E2, e = .returned (.tuple #[.slice a n c, .int .i64 E2]) ∧ Ext w1 w2 ∧ ∀ w3 vv, Ext w2 w3 → RF Any 6 valE w3 vv l → Calls Try.prog 21 #[vv] w3 fun e w4 => ∃ a' c' n', e = .returned (.tuple #[.slice a' n' c', .int .i64 E2]) ∧ Ext w3 w4 ∧
        Calls Try.prog 23 #[.slice a n c] w4 (fun e w5 => ∃ b d k, e = .returned (.slice b k d) ∧ Ext w4 w5 ∧ Calls Try.prog 22 #[.slice b k d, .slice a' n' c'] w5 fun e w6 => e = .returned (.bool true) ∧ Ext w5 w6)) := fun w1 he => by
      refine (HNP.out w1 he).mono fun e w2 h => ?_
      rcases h with ⟨h0, rfl, x2⟩ | ⟨h0, a2, c2, rfl, x2, r2⟩
      · refine ⟨none, 0, 0, vErr l, rfl, x2, fun w3 vv x3 hv => (HNR.out w3 vv hv).mono fun e w4 h => ?_⟩
        rcases h with ⟨_, rfl, x4⟩ | ⟨h1, _⟩
        · exact ⟨none, 0, 0, rfl, x4, same_nodes [] (by rw [show cntN 1 ([] : List (Nd 1)) = 0 from rfl]; omega) w4 _ _ (rk_nil 1 _ _) (rk_nil 1 _ _)⟩
        · exact absurd h1 h0
      · refine ⟨a2, c2, l.length, 0, rfl, x2, fun w3 vv x3 hv => (HNR.out w3 vv hv).mono fun e w4 h => ?_⟩
        rcases h with ⟨h1, _⟩ | ⟨_, a4, c4, rfl, x4, r4⟩
        · exact absurd h0 h1
        · refine ⟨a4, c4, l.length, rfl, x4, same_nodes (l.map (nodeV 0)) (Nat.le_trans (cnt_vals 0 l h0) (by omega)) w4 _ _ ?_ ?_⟩
          · exact (RkN 1).weak ((RkN 1).ext (show (RkN 1).rk _ w2 _ _ from r2) (x3.trans x4)) (fun _ _ h => h.elim)
          · exact (RkN 1).weak (show (RkN 1).rk _ w4 _ _ from r4) (fun _ _ h => h.elim)
    clear HNP HNR HIN
    obtain ⟨n, hn⟩ : ∃ n, l.length = n := ⟨_, rfl⟩
    have HN := Lib.hid hn
    rw [hn] at hj1 hle HLG HEP HAL HD ⊢
    clear hn hlg
    go_enter Try.func3, Try.ntmps3
    go_wp2_with fail
    refine HK.out.mono ?_
    rintro e w1 ⟨rfl, x1⟩
    go_wp2_with fail
    refine (HLG.out _ x1).mono ?_
    rintro e w1' ⟨rfl, rfl⟩
    go_wp2_with fail
    refine (HEP.out _ x1).mono ?_
    rintro e w2 ⟨a2, c2, rfl, x2, r2⟩
    have R2 := Lib.hid (r2 Any (fun _ h => h.elim))
    have X2 := x1.trans x2
    clear r2 x2
    go_wp2_with fail
    refine (HAL.out _ X2).mono ?_
    rintro e w3 ⟨a3, c3, he, x3, r3⟩
    rw [HN.out] at he r3
    subst he
    have HE3 := Lib.hid (HER.out w3 _ (r3.weak (by omega) (fun _ _ h => h.elim)))
    clear r3
    go_wp2_with fail
    refine HE3.out.mono ?_
    rintro e w4 ⟨a4, c4, rfl, x4, r4⟩
    have R4 := Lib.hid (r4 Any (fun _ h => h.elim))
    have X4 := (X2.trans x3).trans x4
    clear r4 HE3
    go_wp2_with fail
    refine (HD.out _ X4).mono ?_
    rintro e w5 ⟨a5, c5, n5, E5, rfl, x5, hnx⟩
    have HNX := Lib.hid hnx
    have X5 := X4.trans x5
    clear hnx
    go_wp2_with fail
    refine (HAL.out _ X5).mono ?_
    rintro e w6 ⟨a6, c6, he, x6, r6⟩
    rw [HN.out] at he r6
    subst he
    have H7 := Lib.hid (HNX.out w6 _ x6 (r6.weak (by omega) (fun _ _ h => h.elim)))
    clear r6 HNX
    go_wp2_with fail
    refine H7.out.mono ?_
    rintro e w7 ⟨a7, c7, n7, rfl, x7, hto⟩
    have HTO := Lib.hid hto
    have Y4 : Ext w4 w7 := (x5.trans x6).trans x7
    have X7 := X4.trans Y4
    have hc1 := (R2.out.ext ((x3.trans x4).trans Y4)).conv (P := Try.prog) 25 9 5 Try.underlying25 Try.underlying5 Try.underlying9
    have hc2 := (R4.out.ext Y4).conv (P := Try.prog) 25 9 5 Try.underlying25 Try.underlying5 Try.underlying9
    generalize strOfNums D = S at *
    clear hto H7 R2 R4 HD HAL HEP HER HLG x3 x4 x5 x6 x7
    generalize D.length = dl at *
    have hEE : (E == E) = true := by simp
    have hE5 : (E5 == E5) = true := by simp
    have hSS : (S.toList == S.toList) = true := by simp
    go_wp2_with fail
    refine HTO.out.mono ?_
    rintro e w8 ⟨b8, d8, k8, rfl, x8, hsm⟩
    go_wp2_with fail
    refine hsm.mono ?_
    rintro e w9 ⟨rfl, x9⟩
    go_wp2_with fail
    go_ret
    exact ⟨rfl, (X7.trans x8).trans x9⟩
  · rw [hlg] at HLG
    generalize l.length = n at *
    go_enter Try.func3, Try.ntmps3
    go_wp2_with fail
    refine HK.out.mono ?_
    rintro e w1 ⟨rfl, x1⟩
    go_wp2_with fail
    refine (HLG.out _ x1).mono ?_
    rintro e w2 ⟨rfl, rfl⟩
    go_wp2_with fail
    go_ret
    exact ⟨rfl, x1⟩
end Go.Proofs.Ytjaofbfppnmdjaa
