/- Same of the reference of two alike subscribers, and To: layer 14. -/
import Derived.Test.YtopmhaebjpmbfaaRefB
import Derived.Test.YtopmhaebjpmbfaaMsgR
namespace Go.Proofs.Ytopmhaebjpmbfaa
open Go.RowKit
attribute [local go_sem ↓] Go.wp_at_zero Go.wp_at_succ
set_option maxRecDepth 100000 in
set_option maxHeartbeats 4000000 in
theorem sameR14_eq (s : SSt) (v v' : Value) (w : World) (h : RF Any 6 valE w v s.vals) (h' : RF Any 6 valE w v' s.vals) : Calls Try.prog 37 #[subA s v, subA s v'] w fun e w' => e = .returned (.bool true) ∧ Ext w w' := by
  have HSa := Lib.hid (fun w1 (he : Ext w w1) => sameVR_any s.vals s.vals v v' w1 (h.ext he) (h'.ext he))
  simp only [decide_true] at HSa
  obtain ⟨a, c, rfl, _, _⟩ := h.form
  obtain ⟨a', c', rfl, _, _⟩ := h'.form
  clear h h'
  obtain ⟨s1, s2, s3, s4, s5, s6, s7, s8, vs⟩ := s
  simp only at *
  generalize vs.length = n at *
  go_enter Try.func37, Try.ntmps37
  go_wp2_with fail
  refine (HSa.out _ (((Ext.refl w).alloc _).alloc _)).mono ?_
  rintro e w1 ⟨rfl, x1⟩
  go_wp2_with fail
  go_ret
  exact ⟨rfl, (((Ext.refl w).alloc _).alloc _).trans x1⟩
set_option maxRecDepth 100000 in
set_option maxHeartbeats 4000000 in
theorem to14_any {V : Nat → Prop} (s : SSt) (v : Value) (w : World) (h : RF V 6 valE w v s.vals) (hl : s.vals.length ≤ 1000000) : Calls Try.prog 38 #[subA s v] w (RetS w s) := by
  have HA := Lib.hid (fun w1 (he : Ext w w1) => all11_any s.vals v w1 (h.ext he) hl)
  obtain ⟨a, c, rfl, _, _⟩ := h.form
  have HF : Hid (∀ w' a' c', Ext w w' → RF (Old w) 6 valE w' (.slice a' s.vals.length c') s.vals → RetS w s (.returned (subA s (.slice a' s.vals.length c'))) w') := fun w' a' c' he hr => ⟨a', c', rfl, he, hr⟩
  generalize hss : RetS w s = R at *
  clear hss h hl
  obtain ⟨s1, s2, s3, s4, s5, s6, s7, s8, vs⟩ := s
  simp only at *
  generalize hn : vs.length = n at *
  have HNN := Lib.hid hn
  clear hn
  have B0 := Lib.hid ((Bk.new w #[.int .i64 s1, .int .i64 s2, .bool s3, .int .i64 s4, .int .i64 s5, .int .i64 s6, .int .i64 s7, .bool s8, .slice a n c] 50 w.heap.size rfl).alloc (.cells #[.int .i64 0, .int .i64 0, .bool false, .int .i64 0, .int .i64 0, .int .i64 0, .int .i64 0, .bool false, .slice none 0 0] 67))
  have B1 := Lib.hid (Bk.new (w.alloc (.cells #[.int .i64 s1, .int .i64 s2, .bool s3, .int .i64 s4, .int .i64 s5, .int .i64 s6, .int .i64 s7, .bool s8, .slice a n c] 50)) #[.int .i64 0, .int .i64 0, .bool false, .int .i64 0, .int .i64 0, .int .i64 0, .int .i64 0, .bool false, .slice none 0 0] 67 (w.heap.size + 1) (by simp))
  have X0 := Lib.hid (((Ext.refl w).alloc (.cells #[.int .i64 s1, .int .i64 s2, .bool s3, .int .i64 s4, .int .i64 s5, .int .i64 s6, .int .i64 s7, .bool s8, .slice a n c] 50)).alloc (.cells #[.int .i64 0, .int .i64 0, .bool false, .int .i64 0, .int .i64 0, .int .i64 0, .int .i64 0, .bool false, .slice none 0 0] 67))
  go_enter Try.func38, Try.ntmps38
  go_upto_region 1 with fail
  generalize (w.alloc (.cells #[.int .i64 s1, .int .i64 s2, .bool s3, .int .i64 s4, .int .i64 s5, .int .i64 s6, .int .i64 s7, .bool s8, .slice a n c] 50)).alloc (.cells #[.int .i64 0, .int .i64 0, .bool false, .int .i64 0, .int .i64 0, .int .i64 0, .int .i64 0, .bool false, .slice none 0 0] 67) = W at *
  have qs : ∀ j, W.cell? ⟨w.heap.size, j, none⟩ = (#[.int .i64 s1, .int .i64 s2, .bool s3, .int .i64 s4, .int .i64 s5, .int .i64 s6, .int .i64 s7, .bool s8, .slice a n c] : Array Value)[j]? := B0.out.cell
  have HBC := Lib.hid (fun w' (he : Ext W w') => (B0.out.ext he).cell)
  go_region_held3 (fun w' => ∀ j, w'.cell? ⟨w.heap.size, j, none⟩ = (#[.int .i64 s1, .int .i64 s2, .bool s3, .int .i64 s4, .int .i64 s5, .int .i64 s6, .int .i64 s7, .bool s8, .slice a n c] : Array Value)[j]?)
    (first | (with_reducible exact qs) | (exact HBC.out _ (by first | (with_reducible exact (Ext.refl W).drew) | (with_reducible exact E2))) | (refine fun j => ?_; (repeat rw [World.cell?_setCell_other _ _ _ _ (by first | (simp; done) | (simp; omega))]); (with_reducible exact HBC.out _ E2 j)) | fail)
    (first
      | (go_at_call 30; (with_reducible refine (HA.out _ X0.out.drew).mono ?_); rintro e w2 ⟨a1, c1, he, x2, r2⟩; rw [HNN.out] at he r2; subst he; have E2 : Ext W w2 := (Ext.refl W).drew.trans x2; have R2 := Lib.hid r2; have BR2 := Lib.hid (B1.out.ext E2); have q2 := BR2.out.cell; have f2 := BR2.out.frozen; clear r2)
      | fail)
  all_goals
    change Exit.then _ _ _ _ (put w2 (w.heap.size + 1) 0 [.int .i64 s1, .int .i64 s2, .bool s3, .int .i64 s4, .int .i64 s5, .int .i64 s6, .int .i64 s7, .bool s8, .slice a1 n c1])
    have C3 := put_all (vs := [.int .i64 s1, .int .i64 s2, .bool s3, .int .i64 s4, .int .i64 s5, .int .i64 s6, .int .i64 s7, .bool s8, .slice a1 n c1]) BR2.out rfl
    have X3 := put_ext (a := w) (Nat.le_succ _) [.int .i64 s1, .int .i64 s2, .bool s3, .int .i64 s4, .int .i64 s5, .int .i64 s6, .int .i64 s7, .bool s8, .slice a1 n c1] 0 w2 (X0.out.drew.trans x2)
    have R3 := (R2.out.agree (agree_put (V := Old W.drew) (B := w.heap.size + 1) B1.out.lt [.int .i64 s1, .int .i64 s2, .bool s3, .int .i64 s4, .int .i64 s5, .int .i64 s6, .int .i64 s7, .bool s8, .slice a1 n c1] 0 w2)).weak (by omega) (V' := Old w) (fun g _ hg => X0.out.lt hg)
    generalize put w2 (w.heap.size + 1) 0 _ = w3 at *
    have c3 := C3.cell
    have HC3 := Lib.hid C3
    clear C3 q2 f2 x2 qs
    go_wp2_with fail
    exact bodyPost_ret (v := .agg #[.int .i64 s1, .int .i64 s2, .bool s3, .int .i64 s4, .int .i64 s5, .int .i64 s6, .int .i64 s7, .bool s8, .slice a1 n c1]) (by simp [results, Try.results38, go_sem, c3]) rfl (HF.out _ _ _ X3 R3)
end Go.Proofs.Ytopmhaebjpmbfaa
