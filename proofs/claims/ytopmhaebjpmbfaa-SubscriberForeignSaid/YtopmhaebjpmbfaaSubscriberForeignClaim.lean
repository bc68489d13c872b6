/- The statement SubscriberForeign is proved: the law returns true, and the arguments read afterwards as before. There are no conditions. -/
import Derived.Test.YtopmhaebjpmbfaaSubscriberForeignWalk
import Derived.Test.YtopmhaebjpmbfaaOpen
import Derived.Test.YtopmhaebjpmbfaaOpenMsg
import Derived.Test.YtopmhaebjpmbfaaOpenSub
import Derived.ShutString
import Derived.ChangeOld
namespace Go.Proofs.Ytopmhaebjpmbfaa.subscriberForeignClaim
open Go.ChangeShapes Go.WideShapes Go.ChangeAt Go.RowKit
open Go.ChangeMaps (open_string shut_string)

theorem own : ownKnob Try.prog.godebug = none := by kernel_rfl
theorem laidOut : laidOutB Try.prog = true := by kernel_rfl

set_option maxRecDepth 100000 in
theorem lifted (os : Os) (started : os.Started) (H : Type) (enc : TypeId × Value → H) :
    ReturnsInHanded {} Try.checked os 7 .any (Rows.subscriberForeignSpec.pre6 enc Try.prog Try.f7 Rows.subscriberForeignRow.domain false) (Rows.subscriberForeignSpec.post enc Try.prog Try.f7 false true false false) := by
  refine returnsInHanded_of_change (C := Try.checked) own started (by kernel_rfl) Try.func7
    (ChangeSpec.witness6 (enc := enc) (C := Try.checked) false ⟨#[], #[.agg #[.int .i64 0, .int .i64 0, .bool false, .int .i64 0, .int .i64 0, .int .i64 0, .int .i64 0, .bool false, .slice none 0 0], .agg #[.int .i64 0, .int .i64 0, .int .i64 0, .int .i64 0, .int .i64 0, .int .i64 0, .int .i64 0, .bool false, .int .i64 0, .slice none 0 0]], []⟩ 8 (by kernel_rfl) (by kernel_rfl) (by kernel_rfl) (by kernel_rfl)) ?_
  intro W base args ds gs before hval0 hW hcnd _
  have hval : ∀ (j : Nat) t v, Try.f7.params[j]? = some t → args[j]? = some v → Value.okWide Try.prog W .any base t v := hval0
  have hW' := hW
  obtain ⟨p, q, hA0, hV, rfl, hfz, hnd⟩ := hW
  have hA : DataW.TrodAll enc Try.prog W 0 (fun _ => true) true Try.f7.params.toList args.toList ds p := hA0
  rw [Try.params7] at hA hval
  obtain ⟨v0, vs0, d0, ds0, p0, q0, hargs, rfl, rfl, h0, r0⟩ := trodAll_cons hA
  obtain ⟨v1, vs1, d1, ds1, p1, q1, rfl, rfl, rfl, h1, r1⟩ := trodAll_cons r0
  obtain ⟨rfl, rfl, rfl⟩ := trodAll_nil r1
  obtain rfl : args = #[v0, v1] := by cases args; simp_all
  obtain ⟨rfl, rfl⟩ := trodVars_none hV
  obtain ⟨cs0, rfl, hsz0⟩ := okWide_struct Try.underlying50 (hval 0 50 v0 rfl rfl)
  have k0 := h0
  have lt0 : ∀ x ∈ p0, x.block < W.heap.size := by obtain ⟨m, hm⟩ := k0; exact DataW.trod_lt m _ _ _ hm
  obtain ⟨f0, hf0⟩ := h0
  obtain ⟨cs1, rfl, hsz1⟩ := okWide_struct Try.underlying39 (hval 1 39 v1 rfl rfl)
  have k1 := h1
  have lt1 : ∀ x ∈ p1, x.block < W.heap.size := by obtain ⟨m, hm⟩ := k1; exact DataW.trod_lt m _ _ _ hm
  obtain ⟨f1, hf1⟩ := h1
  obtain ⟨x0, u0, hcs0, hl0, ok0⟩ := sub_el (cs := cs0.toList) hf0
  obtain rfl : cs0 = #[.int .i64 x0.pub, .int .i64 x0.rev, .bool x0.known, .int .i64 x0.state, .int .i64 x0.seq, .int .i64 x0.left, .int .i64 x0.lost, .bool x0.test, u0] := by apply Array.ext'; rw [hcs0]
  obtain ⟨x1, u1, hcs1, hl1, ok1⟩ := msg_el (cs := cs1.toList) hf1
  obtain rfl : cs1 = #[.int .i64 x1.pub, .int .i64 x1.ttl, .int .i64 x1.sec, .int .i64 x1.frac, .int .i64 x1.qual, .int .i64 x1.state, .int .i64 x1.seq, .bool x1.test, .int .i64 x1.rev, u1] := by apply Array.ext'; rw [hcs1]
  clear hA0 hval0
  refine (foreign_walk x0 x1 u0 u1 W hl0 hl1 ok0.lost).mono fun e W' ⟨he, bel⟩ => ?_
  subst he
  exact ⟨_, rfl, _, _, _, [], _, [], hW', trodAll_mk1 (shut_bool Try.underlying4 _), (trodAll_cons_mk (Below.trod laidOut (by kernel_rfl) (of_decide_eq_true (by kernel_rfl)) k0 bel lt0) (trodAll_cons_mk (Below.trod laidOut (by kernel_rfl) (of_decide_eq_true (by kernel_rfl)) k1 bel lt1) trodAll_mk0)), rfl, Below.frame bel _, fun h => by cases h⟩

theorem over : Rows.subscriberForeignRow.holds Try.pinned (OpenSpec.ofChange Rows.subscriberForeignSpec) :=
  OpenClaim.holds_of_wide 7 Try.f7 rfl rfl rfl rfl rfl rfl rfl ⟨rfl, rfl, rfl, rfl, rfl⟩ rfl rfl rfl rfl rfl (by kernel_rfl) Try.func7 (by kernel_rfl)
    (of_decide_eq_true (by kernel_rfl)) (by unfold Func.isWrapper; first | (rw [if_pos (by decide +kernel)]; kernel_rfl) | (rw [if_neg (by decide +kernel)]; exact ⟨rfl, rfl⟩))
    (fun os started H enc _ => lifted os started H enc)

theorem proved : Rows.SubscriberForeignSaid := over
#print axioms proved
end Go.Proofs.Ytopmhaebjpmbfaa.subscriberForeignClaim
