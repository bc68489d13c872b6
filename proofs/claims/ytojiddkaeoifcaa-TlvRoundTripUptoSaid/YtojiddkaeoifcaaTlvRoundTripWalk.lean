/- The walk of the statement TlvRoundTrip. -/
import Derived.Test.YtojiddkaeoifcaaTlvDecodesWalk
import Derived.Test.YtojiddkaeoifcaaTlvP
namespace Go.Proofs.Ytojiddkaeoifcaa
open Go.RowKit
attribute [local go_sem ↓] Go.wp_at_zero Go.wp_at_succ

set_option maxHeartbeats 4000000 in
theorem round_trip_walk (n : Nat) (hn : 7 ≤ n) (l : List (Nd n)) (v : Value) (w : World) (h : (RkN n).rk Any w v l) (hc : cntN n l ≤ 1000000000) : Calls Try.prog 8 #[v] w fun e w' => e = .returned (.bool true) ∧ Ext w w' := by
  have hk := Lib.hid (known10_any w)
  have la := Lib.hid (fun w1 (h1 : Ext w w1) => large_any n Any l v w1 ((RkN n).ext h h1) hc)
  have ea := Lib.hid (fun w1 (h1 : Ext w w1) => encodeP_any n Any l v w1 ((RkN n).ext h h1) hc)
  have ta := Lib.hid (fun w1 (h1 : Ext w w1) => to_any n Any l v w1 ((RkN n).ext h h1) (fun _ h => h.elim) hc)
  have tb := Lib.hid (fun w1 v1 (h1 : (RkN n).rk Any w1 v1 l) => to_any n Any l v1 w1 h1 (fun _ h => h.elim) hc)
  have sp := Lib.hid (fun w1 (h1 : Ext w w1) => sizeP_any n Any l v w1 ((RkN n).ext h h1) hc)
  have ms := Lib.hid (fun w1 u1 v1 (h1 : (RkN n).rk Any w1 u1 l) (h2 : (RkN n).rk Any w1 v1 l) => (((sameN_iff n _ _).2 rfl) ▸ sameR_any n _ _ u1 v1 w1 h1 h2 : Calls Try.prog 20 #[u1, v1] w1 fun e w' => e = .returned (.bool true) ∧ Ext w1 w'))
  have dd := Lib.hid (fun w1 v1 (h1 : RB Any w1 v1 (encOut n l)) => decodeP_any n (encOut n l) v1 w1 hn h1)
  have hbad := encOut_bad (n := n) (l := l)
  have hgood := round_trip n l
  obtain ⟨aa, ac, rfl, _, _⟩ := (RkN n).form h
  generalize largeN n l = xa at *
  clear h hc
  cases xa
  · by_cases her : encErr n l = 0
    · obtain ⟨g1, g2, g3⟩ := hgood her
      rw [her] at ea
      rw [g1] at dd
      rw [g2] at sp
      clear hbad hgood g1 g2 her
      generalize encOut n l = bs at *
      generalize hbl : bs.length = bl at *
      have hb2 : (bl : Int) ≤ 1500 := by omega
      have HBL := Lib.hid hbl
      clear hbl
      generalize l.length = ll at *
      go_enter Try.func8, Try.ntmps8
      go_wp2_with fail
      refine hk.out.mono ?_
      rintro e w1 ⟨rfl, he1⟩
      go_wp2_with fail
      refine (la.out _ he1).mono ?_
      rintro e w2 ⟨rfl, he2⟩
      go_wp2_with fail
      refine (ea.out _ (he1.trans he2)).mono ?_
      rintro e w3 ⟨a3, c3, he, he3, hr3⟩
      rw [HBL.out] at he hr3
      subst he
      have x3 := (he1.trans he2).trans he3
      go_wp2_with fail
      refine (dd.out _ _ (hr3 Any (fun _ h => h.elim))).mono ?_
      rintro e w4 ⟨a4, c4, he, he4, hr4⟩
      simp only at he hr4
      subst he
      have x4 := x3.trans he4
      go_wp2_with fail
      refine (tb.out _ _ (hr4 Any (fun _ h => h.elim))).mono ?_
      rintro e w5 ⟨a5, c5, rfl, he5, hr5⟩
      have x5 := x4.trans he5
      go_wp2_with fail
      refine (ta.out _ x5).mono ?_
      rintro e w6 ⟨a6, c6, rfl, he6, hr6⟩
      have x6 := x5.trans he6
      go_wp2_with fail
      refine (ms.out _ _ _ ((RkN n).ext hr5 he6) hr6).mono ?_
      rintro e w7 ⟨rfl, he7⟩
      have x7 := x6.trans he7
      go_wp2_with fail
      refine (sp.out _ x7).mono ?_
      rintro e w8 ⟨rfl, he8⟩
      clear hr3 hr4 hr5 hr6
      go_wp2_with fail
      go_ret
      exact ⟨rfl, x7.trans he8⟩
    · have hb := hbad her
      rw [hb] at ea
      have her2 : (encErr n l != 0) = true := by simpa using her
      generalize encErr n l = er at *
      clear hbad hgood hb dd
      generalize l.length = ll at *
      go_enter Try.func8, Try.ntmps8
      go_wp2_with fail
      refine hk.out.mono ?_
      rintro e w1 ⟨rfl, he1⟩
      go_wp2_with fail
      refine (la.out _ he1).mono ?_
      rintro e w2 ⟨rfl, he2⟩
      go_wp2_with fail
      refine (ea.out _ (he1.trans he2)).mono ?_
      rintro e w3 ⟨a3, c3, rfl, he3, hr3⟩
      clear hr3
      go_wp2_with fail
      go_ret
      exact ⟨rfl, (he1.trans he2).trans he3⟩
  · clear hbad hgood dd
    generalize l.length = ll at *
    go_enter Try.func8, Try.ntmps8
    go_wp2_with fail
    refine hk.out.mono ?_
    rintro e w1 ⟨rfl, he1⟩
    go_wp2_with fail
    refine (la.out _ he1).mono ?_
    rintro e w2 ⟨rfl, he2⟩
    go_wp2_with fail
    go_ret
    exact ⟨rfl, he1.trans he2⟩
end Go.Proofs.Ytojiddkaeoifcaa
