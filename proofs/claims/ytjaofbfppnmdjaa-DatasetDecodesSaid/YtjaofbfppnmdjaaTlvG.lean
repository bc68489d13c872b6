/- The sanity check 'known' of layer 10. -/
import Derived.Test.YtjaofbfppnmdjaaTlvF
namespace Go.Proofs.Ytjaofbfppnmdjaa
open Go.RowKit
attribute [local go_sem ↓] Go.wp_at_zero Go.wp_at_succ

/-- A slice of one struct, written out. -/
theorem RS.one {α : Type} {V : Nat → Prop} {k : Nat} {rep : World → α → List Value → Prop} (w : World) (cs : Array Value) (t : TypeId) (B : Nat) (hB : w.heap.size = B) (x : α) (hk : cs.size = k) (hrep : rep (w.alloc (.cells cs t)) x cs.toList) (hV : ¬ V B) :
    RS V k rep (w.alloc (.cells cs t)) (.slice (some ⟨B, 0, none⟩) 1 1) [x] := by
  subst hB
  refine ⟨_, _, rfl, Nat.le_refl _, by unfold maxLen; simp, fun _ => ⟨w.heap.size, 0, rfl, hV, fun i hi => ?_⟩⟩
  have hi0 : i = 0 := by simpa using hi
  subst hi0
  refine ⟨cs.toList, by simpa using hk, hrep, fun j u hu => ?_⟩
  have := World.news_of_block (heap_alloc_new w (.cells cs t)) j u hu
  simpa [Addr.add_lit] using this
theorem rk_nil : ∀ (n : Nat) (V : Nat → Prop) (w : World), (RkN n).rk V w (.slice none 0 0) []
  | 0, V, w => (RS.nil V 3 _ w : RS V 3 (fun _ (_ : Empty) _ => True) w (.slice none 0 0) [])
  | _ + 1, V, w => RS.nil V 3 _ w
/-- Node{Tag: 48, Kids: {Node{Tag: 5}}} -/
def knownL : List (Nd 2) := [((48, [], [((5, [], []) : NodeOf (Nd 0))]) : NodeOf (Nd 1))]
theorem known_out : encOut 2 knownL = [48, 2, 5, 0] := by decide +kernel
theorem known_err : encErr 2 knownL = 0 := by decide +kernel

end Go.Proofs.Ytjaofbfppnmdjaa
