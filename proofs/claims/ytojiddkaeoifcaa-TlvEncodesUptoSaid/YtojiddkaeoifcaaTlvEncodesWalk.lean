/- The walk of the statement TlvEncodes. -/
import Derived.Test.YtojiddkaeoifcaaTlvSR
namespace Go.Proofs.Ytojiddkaeoifcaa
open Go.RowKit
attribute [local go_sem ↓] Go.wp_at_zero Go.wp_at_succ

set_option maxHeartbeats 4000000 in
theorem encodes_walk (n : Nat) (a b : List (Nd n)) (va vb : Value) (w : World) (ha : (RkN n).rk Any w va a) (hb : (RkN n).rk Any w vb b) (ca : cntN n a ≤ 1000000000) (cb : cntN n b ≤ 1000000000) :
    Calls Try.prog 4 #[va, vb] w fun e w' => e = .returned (.bool true) ∧ Ext w w' := by
  have hk := Lib.hid (known10_any w)
  have la := Lib.hid (fun w1 (h : Ext w w1) => large_any n Any a va w1 ((RkN n).ext ha h) ca)
  have lb := Lib.hid (fun w1 (h : Ext w w1) => large_any n Any b vb w1 ((RkN n).ext hb h) cb)
  have ea := Lib.hid (fun w1 (h : Ext w w1) => encodeP_any n Any a va w1 ((RkN n).ext ha h) ca)
  have ta := Lib.hid (fun w1 (h : Ext w w1) => to_any n Any a va w1 ((RkN n).ext ha h) (fun _ h => h.elim) ca)
  have tb := Lib.hid (fun w1 (h : Ext w w1) => to_any n Any b vb w1 ((RkN n).ext hb h) (fun _ h => h.elim) cb)
  have er := Lib.hid (fun w1 v (h : (RkN n).rk Any w1 v a) => encodeR_any n Any a v w1 h ca)
  have sp := Lib.hid (fun w1 (h : Ext w w1) => sizeP_any n Any a va w1 ((RkN n).ext ha h) ca)
  have sr := Lib.hid (fun w1 v (h : (RkN n).rk Any w1 v a) => sizeR_any n Any a v w1 h ca)
  have mp := Lib.hid (fun w1 (h : Ext w w1) => sameP_any n a b va vb w1 ((RkN n).ext ha h) ((RkN n).ext hb h))
  have mr := Lib.hid (fun w1 u v (h1 : (RkN n).rk Any w1 u a) (h2 : (RkN n).rk Any w1 v b) => sameR_any n a b u v w1 h1 h2)
  have ms := Lib.hid (fun w1 (h : Ext w w1) => (((sameN_iff n a a).2 rfl) ▸ sameP_any n a a va va w1 ((RkN n).ext ha h) ((RkN n).ext ha h) : Calls Try.prog 19 #[va, va] w1 fun e w' => e = .returned (.bool true) ∧ Ext w1 w'))
  obtain ⟨aa, ac, rfl, _, _⟩ := (RkN n).form ha
  obtain ⟨ba, bc, rfl, _, _⟩ := (RkN n).form hb
  generalize largeN n a = xa at *
  generalize largeN n b = xb at *
  generalize encErr n a = E at *
  generalize encOut n a = bs at *
  generalize sizeOut n a = sz at *
  generalize sameN n a b = r at *
  generalize hna : a.length = na at *
  generalize hnb : b.length = nb at *
  clear ha hb ca cb hna hnb
  cases xa
  · cases xb
    · go_enter Try.func4, Try.ntmps4
      go_wp2_with fail
      refine hk.out.mono ?_
      rintro e w1 ⟨rfl, he1⟩
      go_wp2_with fail
      refine (la.out _ he1).mono ?_
      rintro e w2 ⟨rfl, he2⟩
      go_wp2_with fail
      refine (lb.out _ (he1.trans he2)).mono ?_
      rintro e w3 ⟨rfl, he3⟩
      have x3 := (he1.trans he2).trans he3
      clear he1 he2 he3
      go_wp2_with fail
      refine (ea.out _ x3).mono ?_
      rintro e w4 ⟨a4, c4, rfl, he4, hr4⟩
      have x4 := x3.trans he4
      go_wp2_with fail
      refine (ta.out _ x4).mono ?_
      rintro e w5 ⟨a5, c5, rfl, he5, hr5⟩
      have x5 := x4.trans he5
      go_wp2_with fail
      refine (er.out _ _ hr5).mono ?_
      rintro e w6 ⟨a6, c6, rfl, he6, hr6⟩
      have x6 := x5.trans he6
      have q1 := ((hr4 Any (fun _ h => h.elim)).ext (he5.trans he6)).conv (P := Try.prog) 22 9 5 Try.underlying22 Try.underlying5 Try.underlying9
      have q2 := (hr6 Any (fun _ h => h.elim)).conv (P := Try.prog) 22 9 5 Try.underlying22 Try.underlying5 Try.underlying9
      generalize strOfNums bs = s at *
      generalize bs.length = m at *
      clear hr4 hr5 hr6 he4 he5 he6 x3 x4 x5
      go_wp2_with fail
      refine (sp.out _ x6).mono ?_
      rintro e w7 ⟨rfl, he7⟩
      have x7 := x6.trans he7
      go_wp2_with fail
      refine (ta.out _ x7).mono ?_
      rintro e w8 ⟨a8, c8, rfl, he8, hr8⟩
      have x8 := x7.trans he8
      go_wp2_with fail
      refine (sr.out _ _ hr8).mono ?_
      rintro e w9 ⟨rfl, he9⟩
      have x9 := x8.trans he9
      go_wp2_with fail
      refine (mp.out _ x9).mono ?_
      rintro e w10 ⟨rfl, he10⟩
      have x10 := x9.trans he10
      go_wp2_with fail
      refine (ta.out _ x10).mono ?_
      rintro e w11 ⟨a11, c11, rfl, he11, hr11⟩
      have x11 := x10.trans he11
      go_wp2_with fail
      refine (tb.out _ x11).mono ?_
      rintro e w12 ⟨a12, c12, rfl, he12, hr12⟩
      have x12 := x11.trans he12
      go_wp2_with fail
      refine (mr.out _ _ _ ((RkN n).ext hr11 he12) hr12).mono ?_
      rintro e w13 ⟨rfl, he13⟩
      have x13 := x12.trans he13
      go_wp2_with fail
      refine (ms.out _ x13).mono ?_
      rintro e w14 ⟨rfl, he14⟩
      go_wp2_with fail
      go_ret
      exact ⟨rfl, x13.trans he14⟩
    · go_enter Try.func4, Try.ntmps4
      go_wp2_with fail
      refine hk.out.mono ?_
      rintro e w1 ⟨rfl, he1⟩
      go_wp2_with fail
      refine (la.out _ he1).mono ?_
      rintro e w2 ⟨rfl, he2⟩
      go_wp2_with fail
      refine (lb.out _ (he1.trans he2)).mono ?_
      rintro e w3 ⟨rfl, he3⟩
      go_wp2_with fail
      go_ret
      exact ⟨rfl, (he1.trans he2).trans he3⟩
  · go_enter Try.func4, Try.ntmps4
    go_wp2_with fail
    refine hk.out.mono ?_
    rintro e w1 ⟨rfl, he1⟩
    go_wp2_with fail
    refine (la.out _ he1).mono ?_
    rintro e w2 ⟨rfl, he2⟩
    go_wp2_with fail
    go_ret
    exact ⟨rfl, he1.trans he2⟩
end Go.Proofs.Ytojiddkaeoifcaa
