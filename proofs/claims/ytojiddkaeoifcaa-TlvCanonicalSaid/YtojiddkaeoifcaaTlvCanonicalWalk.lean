/- The walk of the statement TlvCanonical. -/
import Derived.Test.YtojiddkaeoifcaaTlvDecodesWalk
import Derived.Test.YtojiddkaeoifcaaTlvP
namespace Go.Proofs.Ytojiddkaeoifcaa
open Go.RowKit
attribute [local go_sem ↓] Go.wp_at_zero Go.wp_at_succ

set_option maxHeartbeats 4000000 in
theorem canonical_walk (bs : List Int) (v : Value) (w : World) (h : RB Any w v bs) : Calls Try.prog 6 #[v] w fun e w' => e = .returned (.bool true) ∧ Ext w w' := by
  have hk := Lib.hid (known10_any w)
  have dp := Lib.hid (fun w1 (he : Ext w w1) => decodeP_any 7 bs v w1 (by omega) (h.ext he))
  have HH := Lib.hid h
  have hc := decTop_cnt 7 bs
  have he := Lib.hid (fun w1 v1 (h1 : (RkN 7).rk Any w1 v1 (decTop 7 bs).1) => encodeP_any 7 Any (decTop 7 bs).1 v1 w1 h1 (by omega))
  have hbad := decTop_bad 7 bs
  have hgood := canonical 7 bs (by omega) h.byt
  obtain ⟨a, c, rfl, _, _⟩ := h.form
  clear h hc
  generalize decTop 7 bs = z at *
  obtain ⟨l, er⟩ := z
  simp only at *
  by_cases her : er = 0
  · obtain ⟨h1, h2⟩ := hgood her
    subst her
    rw [h1, h2] at he
    clear h1 h2 hgood hbad
    go_enter Try.func6, Try.ntmps6
    go_wp2_with fail
    refine hk.out.mono ?_
    rintro e w1 ⟨rfl, he1⟩
    go_wp2_with fail
    refine (dp.out _ he1).mono ?_
    rintro e w2 ⟨a2, c2, rfl, he2, hr2⟩
    go_wp2_with fail
    refine (he.out _ _ (hr2 Any (fun _ h => h.elim))).mono ?_
    rintro e w3 ⟨a3, c3, rfl, he3, hr3⟩
    have q1 := (HH.out.ext ((he1.trans he2).trans he3)).conv (P := Try.prog) 22 9 5 Try.underlying22 Try.underlying5 Try.underlying9
    have q2 := (hr3 Any (fun _ h => h.elim)).conv (P := Try.prog) 22 9 5 Try.underlying22 Try.underlying5 Try.underlying9
    generalize strOfNums bs = s at *
    generalize bs.length = m at *
    clear hr2 hr3
    go_wp2_with fail
    go_ret
    exact ⟨rfl, (he1.trans he2).trans he3⟩
  · have hl := hbad her
    subst hl
    have her2 : (er != 0) = true := by simpa using her
    clear hgood hbad he
    generalize bs.length = m at *
    go_enter Try.func6, Try.ntmps6
    go_wp2_with fail
    refine hk.out.mono ?_
    rintro e w1 ⟨rfl, he1⟩
    go_wp2_with fail
    refine (dp.out _ he1).mono ?_
    rintro e w2 ⟨a2, c2, rfl, he2, hr2⟩
    clear hr2
    go_wp2_with fail
    go_ret
    exact ⟨rfl, he1.trans he2⟩
end Go.Proofs.Ytojiddkaeoifcaa
