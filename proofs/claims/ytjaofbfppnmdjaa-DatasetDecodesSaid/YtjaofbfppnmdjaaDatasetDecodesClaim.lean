/- The statement DatasetDecodes is proved: the law returns true, and the arguments read afterwards as before. There are no conditions. -/
import Derived.Test.YtjaofbfppnmdjaaDecRR
import Derived.Test.YtjaofbfppnmdjaaOpen
import Derived.Test.YtjaofbfppnmdjaaOpenNd
import Derived.Test.YtjaofbfppnmdjaaOpenFine
import Derived.SizedLaws
import Derived.ShutString
import Derived.ChangeOld
namespace Go.Proofs.Ytjaofbfppnmdjaa.datasetDecodesClaim
open Go.ChangeShapes Go.WideShapes Go.ChangeAt Go.RowKit
open Go.ChangeMaps (open_string shut_string)

theorem own : ownKnob Try.prog.godebug = none := by kernel_rfl
theorem laidOut : laidOutB Try.prog = true := by kernel_rfl

set_option maxRecDepth 100000 in
theorem lifted (os : Os) (started : os.Started) (H : Type) (enc : TypeId × Value → H) :
    ReturnsInHanded {} Try.checked os 7 .any (Rows.datasetDecodesSpec.pre6 enc Try.prog Try.f7 Rows.datasetDecodesRow.domain false) (Rows.datasetDecodesSpec.post enc Try.prog Try.f7 false true false false) := by
  refine returnsInHanded_of_change_sized (C := Try.checked) own started (by kernel_rfl) Try.func7
    (ChangeSpec.witness6 (enc := enc) (C := Try.checked) false ⟨#[], #[.slice none 0 0, .slice none 0 0], []⟩ 8 (by kernel_rfl) (by kernel_rfl) (by kernel_rfl) (by kernel_rfl)) ?_
  intro W base args ds gs before hval0 hW hcnd hz0 _
  have hval : ∀ (j : Nat) t v, Try.f7.params[j]? = some t → args[j]? = some v → Value.okWide Try.prog W .any base t v := hval0
  have hW' := hW
  obtain ⟨p, q, hA0, hV, rfl, hfz, hnd⟩ := hW
  have hA : DataW.TrodAll enc Try.prog W 0 (fun _ => true) true Try.f7.params.toList args.toList ds p := hA0
  rw [Try.params7] at hA hval
  obtain ⟨v0, vs0, d0, ds0, p0, q0, hargs, rfl, rfl, h0, r0⟩ := trodAll_cons hA
  obtain ⟨v1, vs1, d1, ds1, p1, q1, rfl, rfl, rfl, h1, r1⟩ := trodAll_cons r0
  obtain ⟨rfl, rfl, rfl⟩ := trodAll_nil r1
  obtain rfl : args = #[v0, v1] := by cases args; simp_all
  obtain ⟨rfl, rfl⟩ := trodVars_none hV
  have hz1 : Sized Try.prog 32 d1 := fun n hn => by
    have h1 : n ∈ DataW.weightsEach Try.prog (Try.f7.params.toList ++ Rows.datasetDecodesSpec.plain.varTypes Try.prog) ([d0, d1] ++ []) := DataW.weights_mem_each (j := 1) (by rw [Try.params7]; rfl) rfl n hn
    have h2 : n ≤ reachBytes := by simpa using List.all_eq_true.1 hz0 n h1
    exact Nat.le_of_lt (Nat.lt_of_le_of_lt h2 (Nat.lt_of_lt_of_le reachBytes_lt (by decide)))
  obtain ⟨sa0, len0, cap0, rfl⟩ := okWide_slice Try.underlying25 (hval 0 25 v0 rfl rfl)
  have k0 := h0
  have lt0 : ∀ x ∈ p0, x.block < W.heap.size := by obtain ⟨m, hm⟩ := k0; exact DataW.trod_lt m _ _ _ hm
  obtain ⟨f0, hf0⟩ := h0
  obtain ⟨sa1, len1, cap1, rfl⟩ := okWide_slice Try.underlying32 (hval 1 32 v1 rfl rfl)
  have k1 := h1
  have lt1 : ∀ x ∈ p1, x.block < W.heap.size := by obtain ⟨m, hm⟩ := k1; exact DataW.trod_lt m _ _ _ hm
  obtain ⟨f1, hf1⟩ := h1
  obtain ⟨bs0, hb0, cb0⟩ := rb_of Try.underlying25 Try.underlying5 (by kernel_rfl) hf0
  obtain ⟨l1, hl1, cl1⟩ := nd_fine f1 (f0 + f1 + 7) (by omega) _ _ hf1 hz1
  clear hA0 hval0
  refine (ddecodes_walk (f0 + f1 + 6) bs0 l1 _ _ W hb0 hl1 cl1).mono fun e W' ⟨he, bel⟩ => ?_
  subst he
  exact ⟨_, rfl, _, _, _, [], _, [], hW', trodAll_mk1 (shut_bool Try.underlying4 _), (trodAll_cons_mk (Below.trod laidOut (by kernel_rfl) (of_decide_eq_true (by kernel_rfl)) k0 bel lt0) (trodAll_cons_mk (Below.trod laidOut (by kernel_rfl) (of_decide_eq_true (by kernel_rfl)) k1 bel lt1) trodAll_mk0)), rfl, Below.frame bel _, fun h => by cases h⟩

theorem over : Rows.datasetDecodesRow.holds Try.pinned (OpenSpec.ofChange Rows.datasetDecodesSpec) :=
  OpenClaim.holds_of_wide 7 Try.f7 rfl rfl rfl rfl rfl rfl rfl ⟨rfl, rfl, rfl, rfl, rfl⟩ rfl rfl rfl rfl rfl (by kernel_rfl) Try.func7 (by kernel_rfl)
    (of_decide_eq_true (by kernel_rfl)) (by unfold Func.isWrapper; first | (rw [if_pos (by decide +kernel)]; kernel_rfl) | (rw [if_neg (by decide +kernel)]; exact ⟨rfl, rfl⟩))
    (fun os started H enc _ => lifted os started H enc)

theorem proved : Rows.DatasetDecodesSaid := over
#print axioms proved
end Go.Proofs.Ytjaofbfppnmdjaa.datasetDecodesClaim
