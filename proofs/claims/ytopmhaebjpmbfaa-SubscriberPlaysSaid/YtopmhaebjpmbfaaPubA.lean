/- bounded, due, current: layer 13. -/
import Derived.Test.YtopmhaebjpmbfaaMsgA
import Derived.Test.YtopmhaebjpmbfaaBlk
import Derived.RegionTactic
import Derived.BigRegion
namespace Go.Proofs.Ytopmhaebjpmbfaa
open Go.RowKit
attribute [local go_sem ↓] Go.wp_at_zero Go.wp_at_succ

theorem ext_cells {W w1 : World} (h : Ext W w1) : (∀ b o, b < W.heap.size → w1.cell? ⟨b, o, none⟩ = W.cell? ⟨b, o, none⟩) ∧ (∀ b o, b < W.heap.size → w1.frozen? ⟨b, o, none⟩ = W.frozen? ⟨b, o, none⟩) :=
  ⟨fun b o hb => Below.cell h (p := ⟨b, o, none⟩) hb, fun b o hb => Below.frozen h (p := ⟨b, o, none⟩) hb⟩
abbrev pubC (s : PSt) (v : Value) : Array Value := #[.int .i64 s.pub, .int .i64 s.first, .int .i64 s.max, .int .i64 s.rev, .bool s.started, .int .i64 s.state, .int .i64 s.seq, .int .i64 s.since, .int .i64 s.gap, .int .i64 s.sec, .int .i64 s.frac, .int .i64 s.qual, v]
abbrev pubA (s : PSt) (v : Value) : Value := .agg #[.int .i64 s.pub, .int .i64 s.first, .int .i64 s.max, .int .i64 s.rev, .bool s.started, .int .i64 s.state, .int .i64 s.seq, .int .i64 s.since, .int .i64 s.gap, .int .i64 s.sec, .int .i64 s.frac, .int .i64 s.qual, v]
theorem bounded_any (n : Int) (w : World) : Calls Try.prog 46 #[.int .i64 n] w fun e w' => e = .returned (.int .i64 (bnd n)) ∧ w = w' := by
  obtain ⟨z, hz⟩ : ∃ z, bnd n = z := ⟨_, rfl⟩
  rw [hz]
  unfold bnd at hz
  have HZ := Lib.hid hz
  clear hz
  by_cases h1 : n < -1099511627776
  · go_enter Try.func46, Try.ntmps46
    go_wp2
    go_ret
    exact ⟨ret_int (by rw [← HZ.out]; omega), rfl⟩
  · by_cases h2 : n ≤ 1099511627776
    · go_enter Try.func46, Try.ntmps46
      go_wp2
      go_ret
      exact ⟨ret_int (by rw [← HZ.out]; omega), rfl⟩
    · go_enter Try.func46, Try.ntmps46
      go_wp2
      go_ret
      exact ⟨ret_int (by rw [← HZ.out]; omega), rfl⟩
set_option maxHeartbeats 1000000 in
theorem due_any (s : PSt) (l : List Val) (v u : Value) (w : World) (hv : RF Any 6 valE w v s.vals) (hu : RF Any 6 valE w u l) (h1 : -4611686018427387904 ≤ s.since) (h2 : s.since ≤ 4611686018427387904) :
    Calls Try.prog 45 #[pubA s v, u] w fun e w' => e = .returned (.int .i64 (dueS s l)) ∧ Ext w w' := by
  obtain ⟨z, hz⟩ : ∃ z, dueS s l = z := ⟨_, rfl⟩
  rw [hz]
  unfold dueS at hz
  have HS := Lib.hid (fun w1 (he : Ext w w1) => sameVals_any l s.vals u v w1 (hu.ext he) (hv.ext he))
  obtain ⟨q, hq⟩ : ∃ q, decide (l = s.vals) = q := ⟨_, rfl⟩
  rw [hq] at HS
  obtain ⟨a, n, c, hva⟩ : ∃ a n c, v = .slice a n c := by obtain ⟨a, c, e, _⟩ := hv.form; exact ⟨_, _, _, e⟩
  obtain ⟨a', n', c', hua⟩ : ∃ a n c, u = .slice a n c := by obtain ⟨a, c, e, _⟩ := hu.form; exact ⟨_, _, _, e⟩
  clear hv hu
  obtain ⟨s1, s2, s3, s4, st, s6, s7, s8, s9, s10, s11, s12, vs⟩ := s
  simp only at *
  subst hva hua
  cases st
  · rw [if_pos (.inl rfl)] at hz
    subst hz
    clear hq
    go_enter Try.func45, Try.ntmps45
    go_wp2_with fail
    go_ret
    exact ⟨rfl, (Ext.refl _).alloc _⟩
  · cases q
    · rw [if_pos (.inr (of_decide_eq_false hq))] at hz
      subst hz
      clear hq
      go_enter Try.func45, Try.ntmps45
      go_wp2_with fail
      refine (HS.out _ ((Ext.refl _).alloc _)).mono ?_
      rintro e w1 ⟨rfl, x1⟩
      go_wp2_with fail
      go_ret
      exact ⟨rfl, ((Ext.refl _).alloc _).trans x1⟩
    · rw [if_neg (by intro hh; rcases hh with hh | hh; · cases hh
                     · exact hh (of_decide_eq_true hq))] at hz
      clear hq
      by_cases h3 : s8 + 1 = s9
      · rw [if_pos h3] at hz
        subst hz
        subst h3
        go_enter Try.func45, Try.ntmps45
        go_wp2_with fail
        refine (HS.out _ ((Ext.refl _).alloc _)).mono ?_
        rintro e w1 ⟨rfl, x1⟩
        obtain ⟨k1, k2⟩ := ext_cells x1
        go_wp2_with fail
        go_ret
        exact ⟨rfl, ((Ext.refl _).alloc _).trans x1⟩
      · rw [if_neg h3] at hz
        subst hz
        have h3' : (s8 + 1 == s9) = false := by simpa using h3
        clear h3
        go_enter Try.func45, Try.ntmps45
        go_wp2_with fail
        refine (HS.out _ ((Ext.refl _).alloc _)).mono ?_
        rintro e w1 ⟨rfl, x1⟩
        obtain ⟨k1, k2⟩ := ext_cells x1
        go_wp2_with fail
        go_ret
        exact ⟨rfl, ((Ext.refl _).alloc _).trans x1⟩

/-! ### current -/
theorem info_msg : (Try.prog.info? 39).map (·.size) = some 10 := by kernel_rfl
theorem info_pub : (Try.prog.info? 28).map (·.size) = some 13 := by kernel_rfl
def RetM (w : World) (m : Msg) (e : Ending) (w' : World) : Prop := ∃ a c, e = .returned (msgA m (.slice a m.vals.length c)) ∧ Ext w w' ∧ RF (Old w) 6 valE w' (.slice a m.vals.length c) m.vals
theorem bnd_le (n : Int) : -1099511627776 ≤ bnd n ∧ bnd n ≤ 1099511627776 := by unfold bnd; omega
set_option maxRecDepth 100000 in
set_option maxHeartbeats 4000000 in
theorem current_any (s : PSt) (v : Value) (w : World) (hv : RF Any 6 valE w v s.vals) (hl : s.vals.length ≤ 1000000000) : Calls Try.prog 47 #[pubA s v] w (RetM w (curS s)) := by
  have hb := bnd_le s.gap
  have HB := Lib.hid (fun w1 => bounded_any s.gap w1)
  have HD := Lib.hid (fun w1 (he : Ext w w1) => dupP_any s.vals v w1 (hv.ext he) hl)
  obtain ⟨a, c, rfl, _, _⟩ := hv.form
  have HF : Hid (∀ w' a' c', Ext w w' → RF (Old w) 6 valE w' (.slice a' s.vals.length c') s.vals → RetM w (curS s) (.returned (.agg #[.int .i64 s.pub, .int .i64 (3 * bnd s.gap + 1), .int .i64 s.sec, .int .i64 s.frac, .int .i64 s.qual, .int .i64 s.state, .int .i64 s.seq, .bool false, .int .i64 s.rev, .slice a' s.vals.length c'])) w') := fun w' a' c' he hr => ⟨a', c', rfl, he, hr⟩
  generalize hcs : curS s = cm at *
  clear hcs hv hl
  obtain ⟨s1, s2, s3, s4, st, s6, s7, s8, s9, s10, s11, s12, vs⟩ := s
  simp only at *
  generalize bnd s9 = bg at *
  generalize hn : vs.length = n at *
  have HNN := Lib.hid hn
  clear hn
  go_enter Try.func47, Try.ntmps47
  go_wp2_with fail
  have X0 : Ext w ((w.alloc (.cells #[.int .i64 s1, .int .i64 s2, .int .i64 s3, .int .i64 s4, .bool st, .int .i64 s6, .int .i64 s7, .int .i64 s8, .int .i64 s9, .int .i64 s10, .int .i64 s11, .int .i64 s12, .slice a n c] 28)).alloc (.cells #[.int .i64 0, .int .i64 0, .int .i64 0, .int .i64 0, .int .i64 0, .int .i64 0, .int .i64 0, .bool false, .int .i64 0, .slice none 0 0] 39)) := ((Ext.refl w).alloc _).alloc _
  have B0 := Lib.hid ((Bk.new w #[.int .i64 s1, .int .i64 s2, .int .i64 s3, .int .i64 s4, .bool st, .int .i64 s6, .int .i64 s7, .int .i64 s8, .int .i64 s9, .int .i64 s10, .int .i64 s11, .int .i64 s12, .slice a n c] 28 w.heap.size rfl).alloc (.cells #[.int .i64 0, .int .i64 0, .int .i64 0, .int .i64 0, .int .i64 0, .int .i64 0, .int .i64 0, .bool false, .int .i64 0, .slice none 0 0] 39))
  have B1 := Lib.hid (Bk.new (w.alloc (.cells #[.int .i64 s1, .int .i64 s2, .int .i64 s3, .int .i64 s4, .bool st, .int .i64 s6, .int .i64 s7, .int .i64 s8, .int .i64 s9, .int .i64 s10, .int .i64 s11, .int .i64 s12, .slice a n c] 28)) #[.int .i64 0, .int .i64 0, .int .i64 0, .int .i64 0, .int .i64 0, .int .i64 0, .int .i64 0, .bool false, .int .i64 0, .slice none 0 0] 39 (w.heap.size + 1) (by simp))
  generalize ((w.alloc (.cells #[.int .i64 s1, .int .i64 s2, .int .i64 s3, .int .i64 s4, .bool st, .int .i64 s6, .int .i64 s7, .int .i64 s8, .int .i64 s9, .int .i64 s10, .int .i64 s11, .int .i64 s12, .slice a n c] 28)).alloc (.cells #[.int .i64 0, .int .i64 0, .int .i64 0, .int .i64 0, .int .i64 0, .int .i64 0, .int .i64 0, .bool false, .int .i64 0, .slice none 0 0] 39)) = W at *
  have b0 := B0.out.cell
  have B0d := Lib.hid (B0.out.drew.cell)
  have B3 := Lib.hid (fun w' ds (he : Ext W.drew w') => ((B0.out.drew.ext he).rowOther (show w.heap.size + 1 ≠ w.heap.size by omega) ds).cell)
  have e1 : IntKind.i64.wrap (3 * bg) = 3 * bg := IntWalk.i64_in _ (by omega)
  have e2 : IntKind.i64.wrap (3 * bg + 1) = 3 * bg + 1 := IntWalk.i64_in _ (by omega)
  go_region_held3 (fun w' => ∀ j, w'.cell? ⟨w.heap.size, j, none⟩ = (#[.int .i64 s1, .int .i64 s2, .int .i64 s3, .int .i64 s4, .bool st, .int .i64 s6, .int .i64 s7, .int .i64 s8, .int .i64 s9, .int .i64 s10, .int .i64 s11, .int .i64 s12, .slice a n c] : Array Value)[j]?)
    (first | (with_reducible exact b0) | (with_reducible exact B0d.out) | (with_reducible exact b2) | (intro j; (repeat rw [World.cell?_setCell_other _ _ _ _ (by simp)]); exact b2 j) | fail)
    (first
      | (go_at_call 46; (with_reducible refine (HB.out _).mono ?_); rintro e w1 ⟨rfl, rfl⟩)
      | (go_at_call 44; (with_reducible refine (HD.out _ X0.drew).mono ?_); rintro e w2 ⟨a2, c2, he, x2, r2⟩; rw [HNN.out] at he r2; subst he; have R2 := Lib.hid r2; have B12 := Lib.hid (B1.out.drew.ext x2); have b2 := (B0.out.drew.ext x2).cell; have q2 := B12.out.cell; have f2 := B12.out.frozen; clear r2)
      | fail)
  all_goals
    change Exit.then _ _ _ _ (put w2 (w.heap.size + 1) 0 [.int .i64 s1, .int .i64 (3 * bg + 1), .int .i64 s10, .int .i64 s11, .int .i64 s12, .int .i64 s6, .int .i64 s7, .bool false, .int .i64 s4, .slice a2 n c2])
    have C3 := put_all (vs := [.int .i64 s1, .int .i64 (3 * bg + 1), .int .i64 s10, .int .i64 s11, .int .i64 s12, .int .i64 s6, .int .i64 s7, .bool false, .int .i64 s4, .slice a2 n c2]) B12.out rfl
    have X3 := put_ext (Nat.le_succ w.heap.size) [.int .i64 s1, .int .i64 (3 * bg + 1), .int .i64 s10, .int .i64 s11, .int .i64 s12, .int .i64 s6, .int .i64 s7, .bool false, .int .i64 s4, .slice a2 n c2] 0 w2 (X0.drew.trans x2)
    have R3 := (R2.out.agree (agree_put (V := Old W.drew) (B := w.heap.size + 1) B1.out.lt [.int .i64 s1, .int .i64 (3 * bg + 1), .int .i64 s10, .int .i64 s11, .int .i64 s12, .int .i64 s6, .int .i64 s7, .bool false, .int .i64 s4, .slice a2 n c2] 0 w2)).weak (by omega) (V' := Old w) (fun g _ hg => X0.lt hg)
    generalize put w2 (w.heap.size + 1) 0 _ = w3 at *
    have c3 := C3.cell
    have HC3 := Lib.hid C3
    clear C3 b2 q2 f2 b0 x2
    go_wp2_with fail
    refine bodyPost_ret (v := .agg #[.int .i64 s1, .int .i64 (3 * bg + 1), .int .i64 s10, .int .i64 s11, .int .i64 s12, .int .i64 s6, .int .i64 s7, .bool false, .int .i64 s4, .slice a2 n c2]) (by simp [results, Try.results47, go_sem, c3]) rfl (HF.out _ _ _ X3 R3)
end Go.Proofs.Ytopmhaebjpmbfaa
