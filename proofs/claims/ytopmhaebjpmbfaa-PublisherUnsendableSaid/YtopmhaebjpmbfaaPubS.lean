/- Same of publishers, where the two are alike: layer 13. -/
import Derived.Test.YtopmhaebjpmbfaaPubF
namespace Go.Proofs.Ytopmhaebjpmbfaa
open Go.RowKit
attribute [local go_sem ↓] Go.wp_at_zero Go.wp_at_succ

abbrev plainA (s : PSt) : Value := .agg #[.int .i64 s.pub, .int .i64 s.first, .int .i64 s.max, .int .i64 s.rev, .bool s.started, .int .i64 s.state, .int .i64 s.seq, .int .i64 s.since, .int .i64 s.gap, .int .i64 s.sec, .int .i64 s.frac, .int .i64 s.qual]
set_option maxRecDepth 100000 in
set_option maxHeartbeats 2000000 in
theorem without_any (s : PSt) (v : Value) (w : World) : Calls Try.prog 51 #[pubA s v] w fun e w' => e = .returned (plainA s) ∧ Ext w w' := by
  obtain ⟨s1, s2, s3, s4, s5, s6, s7, s8, s9, s10, s11, s12, vs⟩ := s
  try simp only
  go_enter Try.func51, Try.ntmps51
  go_wp2_with fail
  exact bodyPost_ret (v := .agg #[.int .i64 s1, .int .i64 s2, .int .i64 s3, .int .i64 s4, .bool s5, .int .i64 s6, .int .i64 s7, .int .i64 s8, .int .i64 s9, .int .i64 s10, .int .i64 s11, .int .i64 s12]) (by simp [results, Try.results51, go_sem]) rfl ⟨rfl, ((Ext.refl _).alloc _).alloc _⟩
theorem eql_plain (s : PSt) (w : World) : (binOp .eql 97 (plainA s) (plainA s)).run Try.prog w = .ok (.bool true) w := by
  have hS : Try.prog.underlying 97 = some (.struct (Try.prog.fieldsOf 97)) := by kernel_rfl
  have hp : Try.prog.stoodInHeld 97 = false := by kernel_rfl
  rw [run_eql_struct, show (10000 : Nat) = 9997 + 1 + 1 + 1 from rfl, run_equalIn_agg w (9997 + 1 + 1) 97 _ _ hS hp]
  clear hS hp
  obtain ⟨s1, s2, s3, s4, s5, s6, s7, s8, s9, s10, s11, s12, vs⟩ := s
  have hst := equal_stamp s10 s11 s12 s10 s11 s12 9997 w
  simp only [Program.fieldsOf, Try.underlying97]
  go_simp
set_option maxRecDepth 100000 in
set_option maxHeartbeats 4000000 in
theorem sameP_eq (s : PSt) (v v' : Value) (w : World) (h : RF Any 6 valE w v s.vals) (h' : RF Any 6 valE w v' s.vals) : Calls Try.prog 22 #[pubA s v, pubA s v'] w fun e w' => e = .returned (.bool true) ∧ Ext w w' := by
  have HWo := Lib.hid (fun v1 w1 => without_any s v1 w1)
  have heq := fun w1 => eql_plain s w1
  have HSa := Lib.hid (fun w1 (he : Ext w w1) => sameVals_any s.vals s.vals v v' w1 (h.ext he) (h'.ext he))
  simp only [decide_true] at HSa
  obtain ⟨a, c, rfl, _, _⟩ := h.form
  obtain ⟨a', c', rfl, _, _⟩ := h'.form
  clear h h'
  obtain ⟨s1, s2, s3, s4, s5, s6, s7, s8, s9, s10, s11, s12, vs⟩ := s
  simp only at *
  generalize vs.length = n at *
  go_enter Try.func22, Try.ntmps22
  go_wp2_with fail
  have X0 : Ext w ((w.alloc (.cells #[.int .i64 s1, .int .i64 s2, .int .i64 s3, .int .i64 s4, .bool s5, .int .i64 s6, .int .i64 s7, .int .i64 s8, .int .i64 s9, .int .i64 s10, .int .i64 s11, .int .i64 s12, .slice a n c] 28)).alloc (.cells #[.int .i64 s1, .int .i64 s2, .int .i64 s3, .int .i64 s4, .bool s5, .int .i64 s6, .int .i64 s7, .int .i64 s8, .int .i64 s9, .int .i64 s10, .int .i64 s11, .int .i64 s12, .slice a' n c'] 28)) := ((Ext.refl w).alloc _).alloc _
  have b0 := (Bk.new w #[.int .i64 s1, .int .i64 s2, .int .i64 s3, .int .i64 s4, .bool s5, .int .i64 s6, .int .i64 s7, .int .i64 s8, .int .i64 s9, .int .i64 s10, .int .i64 s11, .int .i64 s12, .slice a n c] 28 w.heap.size rfl).alloc (.cells #[.int .i64 s1, .int .i64 s2, .int .i64 s3, .int .i64 s4, .bool s5, .int .i64 s6, .int .i64 s7, .int .i64 s8, .int .i64 s9, .int .i64 s10, .int .i64 s11, .int .i64 s12, .slice a' n c'] 28)
  have b1 := Bk.new (w.alloc (.cells #[.int .i64 s1, .int .i64 s2, .int .i64 s3, .int .i64 s4, .bool s5, .int .i64 s6, .int .i64 s7, .int .i64 s8, .int .i64 s9, .int .i64 s10, .int .i64 s11, .int .i64 s12, .slice a n c] 28)) #[.int .i64 s1, .int .i64 s2, .int .i64 s3, .int .i64 s4, .bool s5, .int .i64 s6, .int .i64 s7, .int .i64 s8, .int .i64 s9, .int .i64 s10, .int .i64 s11, .int .i64 s12, .slice a' n c'] 28 (w.heap.size + 1) (by simp)
  generalize (w.alloc (.cells #[.int .i64 s1, .int .i64 s2, .int .i64 s3, .int .i64 s4, .bool s5, .int .i64 s6, .int .i64 s7, .int .i64 s8, .int .i64 s9, .int .i64 s10, .int .i64 s11, .int .i64 s12, .slice a n c] 28)).alloc (.cells #[.int .i64 s1, .int .i64 s2, .int .i64 s3, .int .i64 s4, .bool s5, .int .i64 s6, .int .i64 s7, .int .i64 s8, .int .i64 s9, .int .i64 s10, .int .i64 s11, .int .i64 s12, .slice a' n c'] 28) = W at *
  have HBC := Lib.hid (fun w' (he : Ext W w') => And.intro (b0.ext he).cell (b1.ext he).cell)
  have q := b0.cell
  have q' := b1.cell
  clear b0 b1
  go_region_held3 (fun w' => (∀ j, w'.cell? ⟨w.heap.size, j, none⟩ = (#[.int .i64 s1, .int .i64 s2, .int .i64 s3, .int .i64 s4, .bool s5, .int .i64 s6, .int .i64 s7, .int .i64 s8, .int .i64 s9, .int .i64 s10, .int .i64 s11, .int .i64 s12, .slice a n c] : Array Value)[j]?) ∧ (∀ j, w'.cell? ⟨w.heap.size + 1, j, none⟩ = (#[.int .i64 s1, .int .i64 s2, .int .i64 s3, .int .i64 s4, .bool s5, .int .i64 s6, .int .i64 s7, .int .i64 s8, .int .i64 s9, .int .i64 s10, .int .i64 s11, .int .i64 s12, .slice a' n c'] : Array Value)[j]?))
    (first | (with_reducible exact ⟨q, q'⟩) | (exact HBC.out _ (by first | (with_reducible exact (Ext.refl W).drew) | (with_reducible exact E1) | (with_reducible exact E2) | (with_reducible exact E3))) | fail)
    (first
      | (go_at_call 51; (with_reducible refine (HWo.out _ _).mono ?_); rintro e wn ⟨rfl, xn⟩; (first | (with_reducible have E2 : Ext W wn := E1.trans xn) | (with_reducible have E1 : Ext W wn := (Ext.refl W).drew.trans xn)); clear xn)
      | (go_at_call 21; (with_reducible refine (HSa.out _ (X0.trans E2)).mono ?_); rintro e wm ⟨rfl, xm⟩; have E3 : Ext W wm := E2.trans xm; clear xm)
      | fail)
  all_goals
    go_wp2_with fail
    go_ret
    exact ⟨rfl, X0.trans E3⟩
end Go.Proofs.Ytopmhaebjpmbfaa
