/- The sanity check 'known' of layer 10. -/
import Derived.Test.YtojiddkaeoifcaaTlvF
namespace Go.Proofs.Ytojiddkaeoifcaa
open Go.RowKit
attribute [local go_sem ↓] Go.wp_at_zero Go.wp_at_succ

/-- A slice of one struct, written out. -/
theorem RS.one {α : Type} {V : Nat → Prop} {k : Nat} {rep : World → α → List Value → Prop} (w : World) (cs : Array Value) (t : TypeId) (B : Nat) (hB : w.heap.size = B) (x : α) (hk : cs.size = k) (hrep : rep (w.alloc (.cells cs t)) x cs.toList) (hV : ¬ V B) :
    RS V k rep (w.alloc (.cells cs t)) (.slice (some ⟨B, 0, none⟩) 1 1) [x] := by
  subst hB
  refine ⟨_, _, rfl, Nat.le_refl _, by unfold maxLen; simp, fun _ => ⟨w.heap.size, 0, rfl, hV, fun i hi => ?_⟩⟩
  have hi0 : i = 0 := by simpa using hi
  subst hi0
  refine ⟨cs.toList, by simpa using hk, hrep, fun j u hu => ?_⟩
  have := World.news_of_block (heap_alloc_new w (.cells cs t)) j u hu
  simpa [Addr.add_lit] using this
theorem rk_nil : ∀ (n : Nat) (V : Nat → Prop) (w : World), (RkN n).rk V w (.slice none 0 0) []
  | 0, V, w => (RS.nil V 3 _ w : RS V 3 (fun _ (_ : Empty) _ => True) w (.slice none 0 0) [])
  | _ + 1, V, w => RS.nil V 3 _ w
/-- Node{Tag: 48, Kids: {Node{Tag: 5}}} -/
def knownL : List (Nd 2) := [((48, [], [((5, [], []) : NodeOf (Nd 0))]) : NodeOf (Nd 1))]
theorem known_out : encOut 2 knownL = [48, 2, 5, 0] := by decide +kernel
theorem known_err : encErr 2 knownL = 0 := by decide +kernel

set_option maxHeartbeats 1000000 in
theorem known10_any (w : World) : Calls Try.prog 10 #[] w fun e w' => e = .returned (.bool true) ∧ Ext w w' := by
  have hr : (RkN 2).rk Any ((w.alloc (.cells #[.int .i64 5, .slice none 0 0, .slice none 0 0] 26)).alloc (.cells #[.int .i64 48, .slice none 0 0, .slice (some ⟨w.heap.size, 0, none⟩) 1 1] 26)) (.slice (some ⟨w.heap.size + 1, 0, none⟩) 1 1) knownL := by
    refine RS.one _ _ _ _ (by simp) _ rfl ⟨_, _, rfl, RB.nil _ _, ?_⟩ (fun h => h)
    refine (RkN 1).ext ?_ ((Ext.refl _).alloc _)
    exact RS.one _ _ _ _ rfl _ rfl ⟨_, _, rfl, RB.nil _ _, rk_nil 0 _ _⟩ (fun h => h)
  have HE := Lib.hid (encodeP_any 2 Any knownL _ _ hr (by decide +kernel))
  rw [known_out, known_err] at HE
  have n1 := Lib.hid (fun w1 => (show nestB 48 = true by decide +kernel) ▸ nestedP_any 48 w1)
  have n2 := Lib.hid (fun w1 => (show nestB 5 = false by decide +kernel) ▸ nestedP_any 5 w1)
  clear hr
  go_enter Try.func10, Try.ntmps10
  go_wp2_with fail
  refine HE.out.mono ?_
  rintro e w1 ⟨a1, c1, rfl, he1, hr1⟩
  have hcv : (convert 22 9 (.slice a1 4 c1)).run Try.prog w1 = .ok (.string (strOfNums [48, 2, 5, 0])) w1 := (hr1 Any (fun _ h => h.elim)).conv (P := Try.prog) 22 9 5 Try.underlying22 Try.underlying5 Try.underlying9
  have hx : Ext w w1 := (((Ext.refl w).alloc _).alloc _).trans he1
  obtain ⟨s, hs⟩ : ∃ s, s = strOfNums [48, 2, 5, 0] := ⟨_, rfl⟩
  rw [← hs] at hcv
  have hsz : (s.toList == [48, 2, 5, 0]) = true := by rw [hs]; decide +kernel
  clear HE hr1 he1 hs
  go_wp2_with (first | (go_at_call_of 13 (48 : Int); refine (n1.out _).mono ?_; rintro e w2 ⟨rfl, rfl⟩) | (go_at_call_of 13 (5 : Int); refine (n2.out _).mono ?_; rintro e w2 ⟨rfl, rfl⟩))
  go_ret
  exact ⟨rfl, hx⟩
end Go.Proofs.Ytojiddkaeoifcaa
