/- The sanity check 'known' of layer 12. -/
import Derived.Test.YtjaofbfppnmdjaaMsgF
namespace Go.Proofs.Ytjaofbfppnmdjaa
open Go.RowKit
attribute [local go_sem ↓] Go.wp_at_zero Go.wp_at_succ

def knownM : Msg := ⟨0, 1, 0, 0, 0, 1, 0, false, 0, []⟩
theorem knownM_out : ∃ l : List Int, encMB knownM = l ∧ l.length = 32 ∧ l[0]? = some 97 ∧ l[31]? = some 0 ∧ encME knownM = 0 := ⟨_, rfl, by decide +kernel, by decide +kernel, by decide +kernel, by decide +kernel⟩
set_option maxRecDepth 100000 in
theorem known12_any (w : World) : Calls Try.prog 36 #[] w fun e w' => e = .returned (.bool true) ∧ Ext w w' := by
  have HE := Lib.hid (encMP_any knownM (.slice none 0 0) w (RF.nil _ _ _ _))
  obtain ⟨l, h1, h2, h3, h4, h5⟩ := knownM_out
  rw [h1, h5] at HE
  go_enter Try.func36, Try.ntmps36
  go_wp2_with fail
  refine HE.out.mono ?_
  rintro e w1 ⟨a1, c1, he, x1, r1⟩
  obtain ⟨b, off, c, hv, _, _, _, hc⟩ := (r1 Any (fun _ h => h.elim)).at_ (by omega)
  rw [h2] at he hv
  simp only [Value.slice.injEq, true_and] at hv
  obtain ⟨rfl, rfl⟩ := hv
  subst he
  have g0 := hc 0 (by omega)
  have g31 := hc 31 (by omega)
  rw [show l[0] = 97 from by have := h3; rw [List.getElem?_eq_getElem (by omega)] at this; injection this] at g0
  rw [show l[31] = 0 from by have := h4; rw [List.getElem?_eq_getElem (by omega)] at this; injection this] at g31
  simp only [Nat.add_zero] at g0
  clear HE r1 h1 h2 h3 h4 h5 hc
  go_wp2_with fail
  go_ret
  exact ⟨rfl, x1⟩
end Go.Proofs.Ytjaofbfppnmdjaa
