/- Subscribers as plain data: layer 14. -/
import Derived.Test.YtimnepfdpehdmaaTD
import Derived.Test.YtimnepfdpehdmaaTA
import Derived.RegionTactic
import Derived.BigRegion
import Derived.Deep.DeepCutAuto
namespace Go.Proofs.Ytimnepfdpehdmaa

structure SSt where
  pub : Int
  rev : Int
  known : Bool
  state : Int
  seq : Int
  left : Int
  lost : Int
  test : Bool
  vals : List Val
deriving DecidableEq
/-- The distance from a to b. -/
def dist (a b : Int) : Int := (b % 4294967295 - a % 4294967295) % 4294967295
def newB (a b : Int) : Bool := decide (1 ≤ dist a b) && decide (dist a b ≤ 2147483647)
def raiseS (n k : Int) : Int := if 1000000 ≤ n ∨ 1000000 ≤ n + k then 1000000 else n + k
def accS (s : SSt) (m : Msg) (k : Int) : SSt := ⟨s.pub, s.rev, true, m.state, m.seq, m.ttl, raiseS s.lost k, m.test, m.vals⟩
def takeS (s : SSt) (m : Msg) : SSt × Int :=
  if chkM m ≠ 0 ∨ m.pub ≠ s.pub ∨ m.rev ≠ s.rev then (s, 0)
  else if s.known = false then (accS s m 0, 1)
  else if s.left < 1 then (accS s m 0, 5)
  else if m.state = s.state then
    if newB s.seq m.seq = true ∧ m.test = s.test ∧ m.vals = s.vals then (accS s m (dist s.seq m.seq - 1), 3) else (s, 4)
  else if newB s.state m.state = true then (accS s m (dist s.state m.state - 1 + m.seq), 2) else (s, 4)
def tickS (s : SSt) : SSt := if 0 < s.left then { s with left := s.left - 1 } else s
def validS (s : SSt) : Bool := s.known && decide (0 < s.left) && !s.test
def newSub (p r : Int) : SSt := ⟨p, r, false, 0, 0, 0, 0, false, []⟩
theorem dist_small {a b : Int} (h1 : 0 ≤ a) (h2 : a ≤ 1000000000) (h3 : 0 ≤ b) (h4 : b ≤ 1000000000) : (newB a b = true ↔ a < b) ∧ (a < b → dist a b = b - a) := by
  unfold newB dist
  rw [Bool.and_eq_true, decide_eq_true_eq, decide_eq_true_eq]
  omega
theorem dist_lo (a b : Int) : 0 ≤ dist a b ∧ dist a b ≤ 4294967294 := by unfold dist; omega
end Go.Proofs.Ytimnepfdpehdmaa

namespace Go.Proofs.Ytimnepfdpehdmaa
open Go.RowKit
attribute [local go_sem ↓] Go.wp_at_zero Go.wp_at_succ

theorem ext_cells {W w1 : World} (h : Ext W w1) : (∀ b o, b < W.heap.size → w1.cell? ⟨b, o, none⟩ = W.cell? ⟨b, o, none⟩) ∧ (∀ b o, b < W.heap.size → w1.frozen? ⟨b, o, none⟩ = W.frozen? ⟨b, o, none⟩) :=
  ⟨fun b o hb => Below.cell h (p := ⟨b, o, none⟩) hb, fun b o hb => Below.frozen h (p := ⟨b, o, none⟩) hb⟩
abbrev pubC (s : PSt) (v : Value) : Array Value := #[.int .i64 s.pub, .int .i64 s.first, .int .i64 s.max, .int .i64 s.rev, .bool s.started, .int .i64 s.state, .int .i64 s.seq, .int .i64 s.since, .int .i64 s.gap, .int .i64 s.sec, .int .i64 s.frac, .int .i64 s.qual, v]
abbrev pubA (s : PSt) (v : Value) : Value := .agg #[.int .i64 s.pub, .int .i64 s.first, .int .i64 s.max, .int .i64 s.rev, .bool s.started, .int .i64 s.state, .int .i64 s.seq, .int .i64 s.since, .int .i64 s.gap, .int .i64 s.sec, .int .i64 s.frac, .int .i64 s.qual, v]
theorem bounded_any (n : Int) (w : World) : Calls Try.prog 20 #[.int .i64 n] w fun e w' => e = .returned (.int .i64 (bnd n)) ∧ w = w' := by
  obtain ⟨z, hz⟩ : ∃ z, bnd n = z := ⟨_, rfl⟩
  rw [hz]
  unfold bnd at hz
  have HZ := Lib.hid hz
  clear hz
  by_cases h1 : n < -1099511627776
  · go_enter Try.func20, Try.ntmps20
    go_wp2
    go_ret
    exact ⟨ret_int (by rw [← HZ.out]; omega), rfl⟩
  · by_cases h2 : n ≤ 1099511627776
    · go_enter Try.func20, Try.ntmps20
      go_wp2
      go_ret
      exact ⟨ret_int (by rw [← HZ.out]; omega), rfl⟩
    · go_enter Try.func20, Try.ntmps20
      go_wp2
      go_ret
      exact ⟨ret_int (by rw [← HZ.out]; omega), rfl⟩
set_option maxHeartbeats 1000000 in
theorem due_any (s : PSt) (l : List Val) (v u : Value) (w : World) (hv : RF Any 6 valE w v s.vals) (hu : RF Any 6 valE w u l) (h1 : -4611686018427387904 ≤ s.since) (h2 : s.since ≤ 4611686018427387904) :
    Calls Try.prog 19 #[pubA s v, u] w fun e w' => e = .returned (.int .i64 (dueS s l)) ∧ Ext w w' := by
  obtain ⟨z, hz⟩ : ∃ z, dueS s l = z := ⟨_, rfl⟩
  rw [hz]
  unfold dueS at hz
  have HS := Lib.hid (fun w1 (he : Ext w w1) => sameVals_any l s.vals u v w1 (hu.ext he) (hv.ext he))
  obtain ⟨q, hq⟩ : ∃ q, decide (l = s.vals) = q := ⟨_, rfl⟩
  rw [hq] at HS
  obtain ⟨a, n, c, hva⟩ : ∃ a n c, v = .slice a n c := by obtain ⟨a, c, e, _⟩ := hv.form; exact ⟨_, _, _, e⟩
  obtain ⟨a', n', c', hua⟩ : ∃ a n c, u = .slice a n c := by obtain ⟨a, c, e, _⟩ := hu.form; exact ⟨_, _, _, e⟩
  clear hv hu
  obtain ⟨s1, s2, s3, s4, st, s6, s7, s8, s9, s10, s11, s12, vs⟩ := s
  simp only at *
  subst hva hua
  cases st
  · rw [if_pos (.inl rfl)] at hz
    subst hz
    clear hq
    go_enter Try.func19, Try.ntmps19
    go_wp2_with fail
    go_ret
    exact ⟨rfl, (Ext.refl _).alloc _⟩
  · cases q
    · rw [if_pos (.inr (of_decide_eq_false hq))] at hz
      subst hz
      clear hq
      go_enter Try.func19, Try.ntmps19
      go_wp2_with fail
      refine (HS.out _ ((Ext.refl _).alloc _)).mono ?_
      rintro e w1 ⟨rfl, x1⟩
      go_wp2_with fail
      go_ret
      exact ⟨rfl, ((Ext.refl _).alloc _).trans x1⟩
    · rw [if_neg (by intro hh; rcases hh with hh | hh; · cases hh
                     · exact hh (of_decide_eq_true hq))] at hz
      clear hq
      by_cases h3 : s8 + 1 = s9
      · rw [if_pos h3] at hz
        subst hz
        subst h3
        go_enter Try.func19, Try.ntmps19
        go_wp2_with fail
        refine (HS.out _ ((Ext.refl _).alloc _)).mono ?_
        rintro e w1 ⟨rfl, x1⟩
        obtain ⟨k1, k2⟩ := ext_cells x1
        go_wp2_with fail
        go_ret
        exact ⟨rfl, ((Ext.refl _).alloc _).trans x1⟩
      · rw [if_neg h3] at hz
        subst hz
        have h3' : (s8 + 1 == s9) = false := by simpa using h3
        clear h3
        go_enter Try.func19, Try.ntmps19
        go_wp2_with fail
        refine (HS.out _ ((Ext.refl _).alloc _)).mono ?_
        rintro e w1 ⟨rfl, x1⟩
        obtain ⟨k1, k2⟩ := ext_cells x1
        go_wp2_with fail
        go_ret
        exact ⟨rfl, ((Ext.refl _).alloc _).trans x1⟩

/-! ### current -/
theorem info_msg : (Try.prog.info? 55).map (·.size) = some 10 := by kernel_rfl
theorem info_pub : (Try.prog.info? 29).map (·.size) = some 13 := by kernel_rfl
def RetM (w : World) (m : Msg) (e : Ending) (w' : World) : Prop := ∃ a c, e = .returned (msgA m (.slice a m.vals.length c)) ∧ Ext w w' ∧ RF (Old w) 6 valE w' (.slice a m.vals.length c) m.vals
theorem bnd_le (n : Int) : -1099511627776 ≤ bnd n ∧ bnd n ≤ 1099511627776 := by unfold bnd; omega
set_option maxRecDepth 100000 in
set_option maxHeartbeats 4000000 in
theorem current_any (s : PSt) (v : Value) (w : World) (hv : RF Any 6 valE w v s.vals) (hl : s.vals.length ≤ 1000000000) : Calls Try.prog 21 #[pubA s v] w (RetM w (curS s)) := by
  have hb := bnd_le s.gap
  have HB := Lib.hid (fun w1 => bounded_any s.gap w1)
  have HD := Lib.hid (fun w1 (he : Ext w w1) => dupP_any s.vals v w1 (hv.ext he) hl)
  obtain ⟨a, c, rfl, _, _⟩ := hv.form
  have HF : Hid (∀ w' a' c', Ext w w' → RF (Old w) 6 valE w' (.slice a' s.vals.length c') s.vals → RetM w (curS s) (.returned (.agg #[.int .i64 s.pub, .int .i64 (3 * bnd s.gap + 1), .int .i64 s.sec, .int .i64 s.frac, .int .i64 s.qual, .int .i64 s.state, .int .i64 s.seq, .bool false, .int .i64 s.rev, .slice a' s.vals.length c'])) w') := fun w' a' c' he hr => ⟨a', c', rfl, he, hr⟩
  generalize hcs : curS s = cm at *
  clear hcs hv hl
  obtain ⟨s1, s2, s3, s4, st, s6, s7, s8, s9, s10, s11, s12, vs⟩ := s
  simp only at *
  generalize bnd s9 = bg at *
  generalize hn : vs.length = n at *
  have HNN := Lib.hid hn
  clear hn
  go_enter Try.func21, Try.ntmps21
  go_wp2_with fail
  have X0 : Ext w ((w.alloc (.cells #[.int .i64 s1, .int .i64 s2, .int .i64 s3, .int .i64 s4, .bool st, .int .i64 s6, .int .i64 s7, .int .i64 s8, .int .i64 s9, .int .i64 s10, .int .i64 s11, .int .i64 s12, .slice a n c] 29)).alloc (.cells #[.int .i64 0, .int .i64 0, .int .i64 0, .int .i64 0, .int .i64 0, .int .i64 0, .int .i64 0, .bool false, .int .i64 0, .slice none 0 0] 55)) := ((Ext.refl w).alloc _).alloc _
  have B0 := Lib.hid ((Bk.new w #[.int .i64 s1, .int .i64 s2, .int .i64 s3, .int .i64 s4, .bool st, .int .i64 s6, .int .i64 s7, .int .i64 s8, .int .i64 s9, .int .i64 s10, .int .i64 s11, .int .i64 s12, .slice a n c] 29 w.heap.size rfl).alloc (.cells #[.int .i64 0, .int .i64 0, .int .i64 0, .int .i64 0, .int .i64 0, .int .i64 0, .int .i64 0, .bool false, .int .i64 0, .slice none 0 0] 55))
  have B1 := Lib.hid (Bk.new (w.alloc (.cells #[.int .i64 s1, .int .i64 s2, .int .i64 s3, .int .i64 s4, .bool st, .int .i64 s6, .int .i64 s7, .int .i64 s8, .int .i64 s9, .int .i64 s10, .int .i64 s11, .int .i64 s12, .slice a n c] 29)) #[.int .i64 0, .int .i64 0, .int .i64 0, .int .i64 0, .int .i64 0, .int .i64 0, .int .i64 0, .bool false, .int .i64 0, .slice none 0 0] 55 (w.heap.size + 1) (by simp))
  generalize ((w.alloc (.cells #[.int .i64 s1, .int .i64 s2, .int .i64 s3, .int .i64 s4, .bool st, .int .i64 s6, .int .i64 s7, .int .i64 s8, .int .i64 s9, .int .i64 s10, .int .i64 s11, .int .i64 s12, .slice a n c] 29)).alloc (.cells #[.int .i64 0, .int .i64 0, .int .i64 0, .int .i64 0, .int .i64 0, .int .i64 0, .int .i64 0, .bool false, .int .i64 0, .slice none 0 0] 55)) = W at *
  have b0 := B0.out.cell
  have B0d := Lib.hid (B0.out.drew.cell)
  have B3 := Lib.hid (fun w' ds (he : Ext W.drew w') => ((B0.out.drew.ext he).rowOther (show w.heap.size + 1 ≠ w.heap.size by omega) ds).cell)
  have e1 : IntKind.i64.wrap (3 * bg) = 3 * bg := IntWalk.i64_in _ (by omega)
  have e2 : IntKind.i64.wrap (3 * bg + 1) = 3 * bg + 1 := IntWalk.i64_in _ (by omega)
  go_region_held3 (fun w' => ∀ j, w'.cell? ⟨w.heap.size, j, none⟩ = (#[.int .i64 s1, .int .i64 s2, .int .i64 s3, .int .i64 s4, .bool st, .int .i64 s6, .int .i64 s7, .int .i64 s8, .int .i64 s9, .int .i64 s10, .int .i64 s11, .int .i64 s12, .slice a n c] : Array Value)[j]?)
    (first | (with_reducible exact b0) | (with_reducible exact B0d.out) | (with_reducible exact b2) | (intro j; (repeat rw [World.cell?_setCell_other _ _ _ _ (by simp)]); exact b2 j) | fail)
    (first
      | (go_at_call 20; (with_reducible refine (HB.out _).mono ?_); rintro e w1 ⟨rfl, rfl⟩)
      | (go_at_call 18; (with_reducible refine (HD.out _ X0.drew).mono ?_); rintro e w2 ⟨a2, c2, he, x2, r2⟩; rw [HNN.out] at he r2; subst he; have R2 := Lib.hid r2; have B12 := Lib.hid (B1.out.drew.ext x2); have b2 := (B0.out.drew.ext x2).cell; have q2 := B12.out.cell; have f2 := B12.out.frozen; clear r2)
      | fail)
  all_goals
    change Exit.then _ _ _ _ (put w2 (w.heap.size + 1) 0 [.int .i64 s1, .int .i64 (3 * bg + 1), .int .i64 s10, .int .i64 s11, .int .i64 s12, .int .i64 s6, .int .i64 s7, .bool false, .int .i64 s4, .slice a2 n c2])
    have C3 := put_all (vs := [.int .i64 s1, .int .i64 (3 * bg + 1), .int .i64 s10, .int .i64 s11, .int .i64 s12, .int .i64 s6, .int .i64 s7, .bool false, .int .i64 s4, .slice a2 n c2]) B12.out rfl
    have X3 := put_ext (Nat.le_succ w.heap.size) [.int .i64 s1, .int .i64 (3 * bg + 1), .int .i64 s10, .int .i64 s11, .int .i64 s12, .int .i64 s6, .int .i64 s7, .bool false, .int .i64 s4, .slice a2 n c2] 0 w2 (X0.drew.trans x2)
    have R3 := (R2.out.agree (agree_put (V := Old W.drew) (B := w.heap.size + 1) B1.out.lt [.int .i64 s1, .int .i64 (3 * bg + 1), .int .i64 s10, .int .i64 s11, .int .i64 s12, .int .i64 s6, .int .i64 s7, .bool false, .int .i64 s4, .slice a2 n c2] 0 w2)).weak (by omega) (V' := Old w) (fun g _ hg => X0.lt hg)
    generalize put w2 (w.heap.size + 1) 0 _ = w3 at *
    have c3 := C3.cell
    have HC3 := Lib.hid C3
    clear C3 b2 q2 f2 b0 x2
    go_wp2_with fail
    refine bodyPost_ret (v := .agg #[.int .i64 s1, .int .i64 (3 * bg + 1), .int .i64 s10, .int .i64 s11, .int .i64 s12, .int .i64 s6, .int .i64 s7, .bool false, .int .i64 s4, .slice a2 n c2]) (by simp [results, Try.results21, go_sem, c3]) rfl (HF.out _ _ _ X3 R3)
end Go.Proofs.Ytimnepfdpehdmaa

namespace Go.Proofs.Ytimnepfdpehdmaa
open Go.RowKit
attribute [local go_sem ↓] Go.wp_at_zero Go.wp_at_succ

abbrev subC (s : SSt) (v : Value) : Array Value := #[.int .i64 s.pub, .int .i64 s.rev, .bool s.known, .int .i64 s.state, .int .i64 s.seq, .int .i64 s.left, .int .i64 s.lost, .bool s.test, v]
abbrev subA (s : SSt) (v : Value) : Value := .agg #[.int .i64 s.pub, .int .i64 s.rev, .bool s.known, .int .i64 s.state, .int .i64 s.seq, .int .i64 s.left, .int .i64 s.lost, .bool s.test, v]
abbrev msgC (m : Msg) (v : Value) : Array Value := #[.int .i64 m.pub, .int .i64 m.ttl, .int .i64 m.sec, .int .i64 m.frac, .int .i64 m.qual, .int .i64 m.state, .int .i64 m.seq, .bool m.test, .int .i64 m.rev, v]
/-- A subscriber in new memory. -/
def RetS (w : World) (s : SSt) (e : Ending) (w' : World) : Prop := ∃ a c, e = .returned (subA s (.slice a s.vals.length c)) ∧ Ext w w' ∧ RF (Old w) 6 valE w' (.slice a s.vals.length c) s.vals
def RetT (w : World) (t : SSt × Int) (e : Ending) (w' : World) : Prop := ∃ a c, e = .returned (.tuple #[subA t.1 (.slice a t.1.vals.length c), .int .i64 t.2]) ∧ Ext w w' ∧ RF (Old w) 6 valE w' (.slice a t.1.vals.length c) t.1.vals
theorem info_sub : (Try.prog.info? 34).map (·.size) = some 9 := by kernel_rfl
theorem remainder_any (n m : Int) (w : World) (hm : 1 ≤ m) (hm2 : m ≤ 4294967296) : Calls Try.prog 67 #[.int .i64 n, .int .i64 m] w fun e w' => e = .returned (.int .i64 (n % m)) ∧ w = w' := by
  have h1 := Int.emod_nonneg n (show m ≠ 0 by omega)
  have h2 := Int.emod_lt_of_pos n (show 0 < m by omega)
  have h3 : (m == 0) = false := by simp; omega
  have e1 : n.tmod m = n % m ∨ (n.tmod m < 0 ∧ n.tmod m + m = n % m) := by
    rcases Int.lt_or_le n 0 with hn | hn
    · by_cases hz : m ∣ n
      · left
        rw [Int.tmod_eq_zero_of_dvd hz, Int.emod_eq_zero_of_dvd hz]
      · right
        rw [Int.tmod_eq_emod]
        rw [if_neg (by intro hh; rcases hh with hh | hh; · omega
                       · exact hz hh)]
        have : (m.natAbs : Int) = m := by omega
        rw [this]
        omega
    · left; exact Int.tmod_eq_emod_of_nonneg hn
  generalize n % m = r at *
  generalize hq : n.tmod m = q at *
  have HM2 := Lib.hid hm2
  rcases e1 with e1 | ⟨e1, e2⟩
  · subst e1
    clear hm2
    go_enter Try.func67, Try.ntmps67
    go_wp2
    go_ret
    exact ⟨rfl, rfl⟩
  · have hr : r = q + m := by omega
    have ew : IntKind.i64.wrap (q + m) = q + m := IntWalk.i64_in _ (by omega)
    subst hr
    clear hm2
    go_enter Try.func67, Try.ntmps67
    go_wp2
    go_ret
    exact ⟨rfl, rfl⟩
set_option maxRecDepth 100000 in
theorem newer_any (a b : Int) (w : World) : Calls Try.prog 53 #[.int .i64 a, .int .i64 b] w fun e w' => e = .returned (.tuple #[.int .i64 (dist a b), .bool (newB a b)]) ∧ w = w' := by
  have R := Lib.hid (fun n w1 => remainder_any n 4294967295 w1 (by omega) (by omega))
  have ew : IntKind.i64.wrap (b % 4294967295 - a % 4294967295) = b % 4294967295 - a % 4294967295 := IntWalk.i64_in _ (by omega)
  have hd : dist a b = (b % 4294967295 - a % 4294967295) % 4294967295 := rfl
  have hn : newB a b = (decide (1 ≤ dist a b) && decide (dist a b ≤ 2147483647)) := rfl
  rw [hn]
  clear hn
  generalize dist a b = d at *
  have HD := Lib.hid hd
  clear hd
  have RA := Lib.hid (fun w1 => R.out a w1)
  have RB := Lib.hid (fun w1 => R.out b w1)
  have RC := Lib.hid (fun w1 => R.out (b % 4294967295 - a % 4294967295) w1)
  rw [← HD.out] at RC
  clear R HD
  generalize b % 4294967295 = x at *
  generalize a % 4294967295 = y at *
  by_cases c1 : 1 ≤ d
  · have e1 : decide (1 ≤ d) = true := by simpa using c1
    rw [e1, Bool.true_and]
    obtain ⟨q, hq⟩ : ∃ q, decide (d ≤ 2147483647) = q := ⟨_, rfl⟩
    rw [hq]
    clear c1
    go_enter Try.func53, Try.ntmps53
    go_wp2_with fail
    refine (RB.out _).mono ?_
    rintro e w1 ⟨rfl, rfl⟩
    go_wp2_with fail
    refine (RA.out _).mono ?_
    rintro e w1 ⟨rfl, rfl⟩
    go_wp2_with fail
    refine (RC.out _).mono ?_
    rintro e w1 ⟨rfl, rfl⟩
    go_wp2_with fail
    go_ret2
    exact ⟨rfl, rfl⟩
  · have e1 : decide (1 ≤ d) = false := by simpa using c1
    rw [e1, Bool.false_and]
    clear c1
    go_enter Try.func53, Try.ntmps53
    go_wp2_with fail
    refine (RB.out _).mono ?_
    rintro e w1 ⟨rfl, rfl⟩
    go_wp2_with fail
    refine (RA.out _).mono ?_
    rintro e w1 ⟨rfl, rfl⟩
    go_wp2_with fail
    refine (RC.out _).mono ?_
    rintro e w1 ⟨rfl, rfl⟩
    go_wp2_with fail
    go_ret2
    exact ⟨rfl, rfl⟩
theorem raised_any (n k m : Int) (w : World) (hw : n < m → IntKind.i64.wrap (n + k) = n + k) : Calls Try.prog 52 #[.int .i64 n, .int .i64 k, .int .i64 m] w fun e w' => e = .returned (.int .i64 (if m ≤ n ∨ m ≤ n + k then m else n + k)) ∧ w = w' := by
  by_cases h1 : m ≤ n
  · rw [if_pos (.inl h1)]
    have e1 : decide (m ≤ n) = true := by simpa using h1
    clear h1 hw
    go_enter Try.func52, Try.ntmps52
    go_wp2
    go_ret
    exact ⟨rfl, rfl⟩
  · have e1 : decide (m ≤ n) = false := by simpa using h1
    replace hw := hw (by omega)
    by_cases h2 : m ≤ n + k
    · rw [if_pos (.inr h2)]
      have e2 : decide (m ≤ n + k) = true := by simpa using h2
      clear h1 h2
      go_enter Try.func52, Try.ntmps52
      go_wp2
      go_ret
      exact ⟨rfl, rfl⟩
    · rw [if_neg (by omega)]
      have e2 : decide (m ≤ n + k) = false := by simpa using h2
      clear h1 h2
      go_enter Try.func52, Try.ntmps52
      go_wp2
      go_ret
      exact ⟨rfl, rfl⟩
theorem newSub_any (p r : Int) (w : World) : Calls Try.prog 7 #[.int .i64 p, .int .i64 r] w fun e w' => e = .returned (subA (newSub p r) (.slice none 0 0)) ∧ Ext w w' := by
  go_enter Try.func7, Try.ntmps7
  go_wp2
  exact bodyPost_ret (v := .agg #[.int .i64 p, .int .i64 r, .bool false, .int .i64 0, .int .i64 0, .int .i64 0, .int .i64 0, .bool false, .slice none 0 0]) (by simp [results, Try.results7, go_sem]) rfl ⟨rfl, (Ext.refl _).alloc _⟩
theorem valid_any (s : SSt) (v : Value) (w : World) : Calls Try.prog 14 #[subA s v] w fun e w' => e = .returned (.bool (validS s)) ∧ Ext w w' := by
  obtain ⟨s1, s2, s3, s4, s5, s6, s7, s8, vs⟩ := s
  simp only [validS]
  cases s3 <;> cases s8
  all_goals
    obtain ⟨q, hq⟩ : ∃ q, decide (0 < s6) = q := ⟨_, rfl⟩
    rw [hq]
    cases q
    all_goals
      go_enter Try.func14, Try.ntmps14
      go_wp2_with fail
      go_ret
      exact ⟨rfl, (Ext.refl _).alloc _⟩
set_option maxRecDepth 100000 in
set_option maxHeartbeats 2000000 in
theorem dupSub_any {V : Nat → Prop} (s : SSt) (v : Value) (w : World) (h : RF V 6 valE w v s.vals) (hl : s.vals.length ≤ 1000000000) : Calls Try.prog 24 #[subA s v] w (RetS w s) := by
  have HC := Lib.hid (fun w1 (he : Ext w w1) => cloneVals_any s.vals v w1 (h.ext he) hl)
  obtain ⟨a, c, rfl, _, _⟩ := h.form
  have HF : Hid (∀ w' a' c', Ext w w' → RF (Old w) 6 valE w' (.slice a' s.vals.length c') s.vals → RetS w s (.returned (subA s (.slice a' s.vals.length c'))) w') := fun w' a' c' he hr => ⟨a', c', rfl, he, hr⟩
  generalize hss : RetS w s = R at *
  clear hss h hl
  obtain ⟨s1, s2, s3, s4, s5, s6, s7, s8, vs⟩ := s
  simp only at *
  generalize hn : vs.length = n at *
  have HNN := Lib.hid hn
  clear hn
  go_enter Try.func24, Try.ntmps24
  go_wp2_with fail
  have X0 : Ext w ((w.alloc (.cells #[.int .i64 s1, .int .i64 s2, .bool s3, .int .i64 s4, .int .i64 s5, .int .i64 s6, .int .i64 s7, .bool s8, .slice a n c] 34)).alloc (.cells #[.int .i64 0, .int .i64 0, .bool false, .int .i64 0, .int .i64 0, .int .i64 0, .int .i64 0, .bool false, .slice none 0 0] 34)) := ((Ext.refl w).alloc _).alloc _
  have B0 := Lib.hid ((Bk.new w #[.int .i64 s1, .int .i64 s2, .bool s3, .int .i64 s4, .int .i64 s5, .int .i64 s6, .int .i64 s7, .bool s8, .slice a n c] 34 w.heap.size rfl).alloc (.cells #[.int .i64 0, .int .i64 0, .bool false, .int .i64 0, .int .i64 0, .int .i64 0, .int .i64 0, .bool false, .slice none 0 0] 34))
  have B1 := Lib.hid (Bk.new (w.alloc (.cells #[.int .i64 s1, .int .i64 s2, .bool s3, .int .i64 s4, .int .i64 s5, .int .i64 s6, .int .i64 s7, .bool s8, .slice a n c] 34)) #[.int .i64 0, .int .i64 0, .bool false, .int .i64 0, .int .i64 0, .int .i64 0, .int .i64 0, .bool false, .slice none 0 0] 34 (w.heap.size + 1) (by simp))
  refine (HC.out _ X0).mono ?_
  generalize (w.alloc (.cells #[.int .i64 s1, .int .i64 s2, .bool s3, .int .i64 s4, .int .i64 s5, .int .i64 s6, .int .i64 s7, .bool s8, .slice a n c] 34)).alloc (.cells #[.int .i64 0, .int .i64 0, .bool false, .int .i64 0, .int .i64 0, .int .i64 0, .int .i64 0, .bool false, .slice none 0 0] 34) = W at *
  rintro e w1 ⟨a1, c1, he, x1, r1⟩
  rw [HNN.out] at he r1
  subst he
  have B01 := Lib.hid (B0.out.ext x1)
  have B11 := Lib.hid (B1.out.ext x1)
  have q0 := B01.out.cell
  have f0 := B01.out.frozen
  go_upto_region 2 with fail
  have B02 := Lib.hid (show Bk (w1.setCell ⟨w.heap.size, 8, none⟩ (.slice a1 n c1)) w.heap.size 34 #[.int .i64 s1, .int .i64 s2, .bool s3, .int .i64 s4, .int .i64 s5, .int .i64 s6, .int .i64 s7, .bool s8, .slice a1 n c1] from B01.out.setCell 8 (.slice a1 n c1))
  have B12 := Lib.hid (B11.out.setOther (show w.heap.size ≠ w.heap.size + 1 by omega) 8 (.slice a1 n c1))
  have R2 := Lib.hid (r1.agree (agree_setCell (V := Old W) (p := ⟨w.heap.size, 8, none⟩) B0.out.lt (.slice a1 n c1)))
  have X2 := Lib.hid ((X0.trans x1).setCell (p := ⟨w.heap.size, 8, none⟩) (Nat.le_refl _) (.slice a1 n c1))
  clear q0 f0
  generalize w1.setCell ⟨w.heap.size, 8, none⟩ (.slice a1 n c1) = w2 at *
  have q0 := B02.out.cell
  have q1 := B12.out.cell
  have f1 := B12.out.frozen
  go_wp2_with fail
  change bodyPost _ _ _ _ _ (put w2 (w.heap.size + 1) 0 [.int .i64 s1, .int .i64 s2, .bool s3, .int .i64 s4, .int .i64 s5, .int .i64 s6, .int .i64 s7, .bool s8, .slice a1 n c1])
  have C3 := put_all (vs := [.int .i64 s1, .int .i64 s2, .bool s3, .int .i64 s4, .int .i64 s5, .int .i64 s6, .int .i64 s7, .bool s8, .slice a1 n c1]) B12.out rfl
  have X3 := put_ext (a := w) (Nat.le_succ _) [.int .i64 s1, .int .i64 s2, .bool s3, .int .i64 s4, .int .i64 s5, .int .i64 s6, .int .i64 s7, .bool s8, .slice a1 n c1] 0 _ X2.out
  have R3 := (R2.out.agree (agree_put (V := Old W) (B := w.heap.size + 1) B1.out.lt [.int .i64 s1, .int .i64 s2, .bool s3, .int .i64 s4, .int .i64 s5, .int .i64 s6, .int .i64 s7, .bool s8, .slice a1 n c1] 0 w2)).weak (by omega) (V' := Old w) (fun g _ hg => X0.lt hg)
  generalize put w2 (w.heap.size + 1) 0 [.int .i64 s1, .int .i64 s2, .bool s3, .int .i64 s4, .int .i64 s5, .int .i64 s6, .int .i64 s7, .bool s8, .slice a1 n c1] = w3 at *
  have c3 := C3.cell
  exact bodyPost_ret (v := .agg #[.int .i64 s1, .int .i64 s2, .bool s3, .int .i64 s4, .int .i64 s5, .int .i64 s6, .int .i64 s7, .bool s8, .slice a1 n c1]) (by simp [results, Try.results24, go_sem, c3]) rfl (HF.out _ _ _ X3 R3)
set_option maxRecDepth 100000 in
set_option maxHeartbeats 4000000 in
theorem tick_any {V : Nat → Prop} (s : SSt) (v : Value) (w : World) (h : RF V 6 valE w v s.vals) (hl : s.vals.length ≤ 1000000000) (hlf : s.left ≤ 1000000) : Calls Try.prog 10 #[subA s v] w (RetS w (tickS s)) := by
  have HC := Lib.hid (fun w1 (he : Ext w w1) => dupSub_any s v w1 (h.ext he) hl)
  obtain ⟨a, c, rfl, _, _⟩ := h.form
  have HF : Hid (∀ w' a' c', Ext w w' → RF (Old w) 6 valE w' (.slice a' s.vals.length c') s.vals → RetS w (tickS s) (.returned (.agg #[.int .i64 s.pub, .int .i64 s.rev, .bool s.known, .int .i64 s.state, .int .i64 s.seq, .int .i64 (if 0 < s.left then s.left - 1 else s.left), .int .i64 s.lost, .bool s.test, .slice a' s.vals.length c'])) w') := fun w' a' c' he hr => by
    unfold tickS
    by_cases h0 : 0 < s.left
    · rw [if_pos h0, if_pos h0]; exact ⟨a', c', rfl, he, hr⟩
    · rw [if_neg h0, if_neg h0]; exact ⟨a', c', rfl, he, hr⟩
  generalize hss : RetS w (tickS s) = R at *
  clear hss h hl
  obtain ⟨s1, s2, s3, s4, s5, s6, s7, s8, vs⟩ := s
  simp only at *
  generalize hn : vs.length = n at *
  have HNN := Lib.hid hn
  clear hn
  have ew : 0 < s6 → IntKind.i64.wrap (s6 - 1) = s6 - 1 := fun _ => IntWalk.i64_in _ (by omega)
  clear hlf
  by_cases h0 : 0 < s6
  · have ew2 := ew h0
    have e0 : decide (0 < s6) = true := by simpa using h0
    rw [if_pos h0] at HF
    clear ew
    go_enter Try.func10, Try.ntmps10
    go_wp2_with fail
    have X0 : Ext w ((w.alloc (.cells #[.int .i64 s1, .int .i64 s2, .bool s3, .int .i64 s4, .int .i64 s5, .int .i64 s6, .int .i64 s7, .bool s8, .slice a n c] 34)).alloc (.cells #[.int .i64 0, .int .i64 0, .bool false, .int .i64 0, .int .i64 0, .int .i64 0, .int .i64 0, .bool false, .slice none 0 0] 34)) := ((Ext.refl w).alloc _).alloc _
    have B1 := Lib.hid (Bk.new (w.alloc (.cells #[.int .i64 s1, .int .i64 s2, .bool s3, .int .i64 s4, .int .i64 s5, .int .i64 s6, .int .i64 s7, .bool s8, .slice a n c] 34)) #[.int .i64 0, .int .i64 0, .bool false, .int .i64 0, .int .i64 0, .int .i64 0, .int .i64 0, .bool false, .slice none 0 0] 34 (w.heap.size + 1) (by simp))
    refine (HC.out _ X0).mono ?_
    generalize (w.alloc (.cells #[.int .i64 s1, .int .i64 s2, .bool s3, .int .i64 s4, .int .i64 s5, .int .i64 s6, .int .i64 s7, .bool s8, .slice a n c] 34)).alloc (.cells #[.int .i64 0, .int .i64 0, .bool false, .int .i64 0, .int .i64 0, .int .i64 0, .int .i64 0, .bool false, .slice none 0 0] 34) = W at *
    rintro e w1 ⟨a1, c1, he, x1, r1⟩
    simp only [HNN.out] at he r1
    subst he
    have B11 := Lib.hid (B1.out.ext x1)
    go_upto_region 2 with fail
    have B12 := Lib.hid (B11.out.alloc (.cells #[.int .i64 s1, .int .i64 s2, .bool s3, .int .i64 s4, .int .i64 s5, .int .i64 s6, .int .i64 s7, .bool s8, .slice a1 n c1] 34))
    have B02 := Lib.hid (Bk.new w1 #[.int .i64 s1, .int .i64 s2, .bool s3, .int .i64 s4, .int .i64 s5, .int .i64 s6, .int .i64 s7, .bool s8, .slice a1 n c1] 34 w1.heap.size rfl)
    have R2 := Lib.hid (((r1.weak (by omega) (V' := fun g => g = w1.heap.size ∨ g = w.heap.size + 1 ∨ Old w g) (fun g hg1 hg => hg.elim (fun e => by exfalso; omega) (fun e => e.elim (fun e => by rw [e]; exact B1.out.lt) (fun h => X0.lt h)))).ext ((Ext.refl w1).alloc (.cells #[.int .i64 s1, .int .i64 s2, .bool s3, .int .i64 s4, .int .i64 s5, .int .i64 s6, .int .i64 s7, .bool s8, .slice a1 n c1] 34))))
    have X2 := Lib.hid ((X0.trans x1).alloc (.cells #[.int .i64 s1, .int .i64 s2, .bool s3, .int .i64 s4, .int .i64 s5, .int .i64 s6, .int .i64 s7, .bool s8, .slice a1 n c1] 34))
    have hne : w.heap.size + 1 < w1.heap.size := B11.out.lt
    generalize w1.alloc (.cells #[.int .i64 s1, .int .i64 s2, .bool s3, .int .i64 s4, .int .i64 s5, .int .i64 s6, .int .i64 s7, .bool s8, .slice a1 n c1] 34) = w2 at *
    generalize w1.heap.size = b1 at *
    clear B11 x1 r1
    have q0 := B02.out.cell
    have f0 := B02.out.frozen
    go_upto_region 4 with fail
    have B03 := Lib.hid (show Bk (w2.setCell ⟨b1, 5, none⟩ (.int .i64 (s6 - 1))) b1 34 #[.int .i64 s1, .int .i64 s2, .bool s3, .int .i64 s4, .int .i64 s5, .int .i64 (s6 - 1), .int .i64 s7, .bool s8, .slice a1 n c1] from B02.out.setCell 5 (.int .i64 (s6 - 1)))
    have B13 := Lib.hid (B12.out.setOther (show b1 ≠ w.heap.size + 1 by omega) 5 (.int .i64 (s6 - 1)))
    have R3 := Lib.hid (R2.out.agree (agree_setCell (V := fun g => g = b1 ∨ g = w.heap.size + 1 ∨ Old w g) (p := ⟨b1, 5, none⟩) (.inl rfl) (.int .i64 (s6 - 1))))
    have X3 := Lib.hid (X2.out.setCell (p := ⟨b1, 5, none⟩) (by simp only; omega) (.int .i64 (s6 - 1)))
    clear q0 f0
    generalize w2.setCell ⟨b1, 5, none⟩ (.int .i64 (s6 - 1)) = w3 at *
    have q0 := B03.out.cell
    have q1 := B13.out.cell
    have f1 := B13.out.frozen
    go_wp2_with fail
    change bodyPost _ _ _ _ _ (put w3 (w.heap.size + 1) 0 [.int .i64 s1, .int .i64 s2, .bool s3, .int .i64 s4, .int .i64 s5, .int .i64 (s6 - 1), .int .i64 s7, .bool s8, .slice a1 n c1])
    have C4 := put_all (vs := [.int .i64 s1, .int .i64 s2, .bool s3, .int .i64 s4, .int .i64 s5, .int .i64 (s6 - 1), .int .i64 s7, .bool s8, .slice a1 n c1]) B13.out rfl
    have X4 := put_ext (a := w) (Nat.le_succ _) [.int .i64 s1, .int .i64 s2, .bool s3, .int .i64 s4, .int .i64 s5, .int .i64 (s6 - 1), .int .i64 s7, .bool s8, .slice a1 n c1] 0 _ X3.out
    have R4 := (R3.out.agree (agree_put (V := fun g => g = b1 ∨ g = w.heap.size + 1 ∨ Old w g) (B := w.heap.size + 1) (.inr (.inl rfl)) [.int .i64 s1, .int .i64 s2, .bool s3, .int .i64 s4, .int .i64 s5, .int .i64 (s6 - 1), .int .i64 s7, .bool s8, .slice a1 n c1] 0 w3)).weak (by omega) (V' := Old w) (fun g _ hg => .inr (.inr hg))
    generalize put w3 (w.heap.size + 1) 0 [.int .i64 s1, .int .i64 s2, .bool s3, .int .i64 s4, .int .i64 s5, .int .i64 (s6 - 1), .int .i64 s7, .bool s8, .slice a1 n c1] = w4 at *
    have c4 := C4.cell
    exact bodyPost_ret (v := .agg #[.int .i64 s1, .int .i64 s2, .bool s3, .int .i64 s4, .int .i64 s5, .int .i64 (s6 - 1), .int .i64 s7, .bool s8, .slice a1 n c1]) (by simp [results, Try.results10, go_sem, c4]) rfl (HF.out _ _ _ X4 R4)
  · have e0 : decide (0 < s6) = false := by simpa using h0
    rw [if_neg h0] at HF
    clear ew
    go_enter Try.func10, Try.ntmps10
    go_wp2_with fail
    have X0 : Ext w ((w.alloc (.cells #[.int .i64 s1, .int .i64 s2, .bool s3, .int .i64 s4, .int .i64 s5, .int .i64 s6, .int .i64 s7, .bool s8, .slice a n c] 34)).alloc (.cells #[.int .i64 0, .int .i64 0, .bool false, .int .i64 0, .int .i64 0, .int .i64 0, .int .i64 0, .bool false, .slice none 0 0] 34)) := ((Ext.refl w).alloc _).alloc _
    have B1 := Lib.hid (Bk.new (w.alloc (.cells #[.int .i64 s1, .int .i64 s2, .bool s3, .int .i64 s4, .int .i64 s5, .int .i64 s6, .int .i64 s7, .bool s8, .slice a n c] 34)) #[.int .i64 0, .int .i64 0, .bool false, .int .i64 0, .int .i64 0, .int .i64 0, .int .i64 0, .bool false, .slice none 0 0] 34 (w.heap.size + 1) (by simp))
    refine (HC.out _ X0).mono ?_
    generalize (w.alloc (.cells #[.int .i64 s1, .int .i64 s2, .bool s3, .int .i64 s4, .int .i64 s5, .int .i64 s6, .int .i64 s7, .bool s8, .slice a n c] 34)).alloc (.cells #[.int .i64 0, .int .i64 0, .bool false, .int .i64 0, .int .i64 0, .int .i64 0, .int .i64 0, .bool false, .slice none 0 0] 34) = W at *
    rintro e w1 ⟨a1, c1, he, x1, r1⟩
    simp only [HNN.out] at he r1
    subst he
    have B11 := Lib.hid (B1.out.ext x1)
    go_upto_region 2 with fail
    have B12 := Lib.hid (B11.out.alloc (.cells #[.int .i64 s1, .int .i64 s2, .bool s3, .int .i64 s4, .int .i64 s5, .int .i64 s6, .int .i64 s7, .bool s8, .slice a1 n c1] 34))
    have B02 := Lib.hid (Bk.new w1 #[.int .i64 s1, .int .i64 s2, .bool s3, .int .i64 s4, .int .i64 s5, .int .i64 s6, .int .i64 s7, .bool s8, .slice a1 n c1] 34 w1.heap.size rfl)
    have R2 := Lib.hid (((r1.weak (by omega) (V' := fun g => g = w1.heap.size ∨ g = w.heap.size + 1 ∨ Old w g) (fun g hg1 hg => hg.elim (fun e => by exfalso; omega) (fun e => e.elim (fun e => by rw [e]; exact B1.out.lt) (fun h => X0.lt h)))).ext ((Ext.refl w1).alloc (.cells #[.int .i64 s1, .int .i64 s2, .bool s3, .int .i64 s4, .int .i64 s5, .int .i64 s6, .int .i64 s7, .bool s8, .slice a1 n c1] 34))))
    have X2 := Lib.hid ((X0.trans x1).alloc (.cells #[.int .i64 s1, .int .i64 s2, .bool s3, .int .i64 s4, .int .i64 s5, .int .i64 s6, .int .i64 s7, .bool s8, .slice a1 n c1] 34))
    have hne : w.heap.size + 1 < w1.heap.size := B11.out.lt
    generalize w1.alloc (.cells #[.int .i64 s1, .int .i64 s2, .bool s3, .int .i64 s4, .int .i64 s5, .int .i64 s6, .int .i64 s7, .bool s8, .slice a1 n c1] 34) = w2 at *
    generalize w1.heap.size = b1 at *
    clear B11 x1 r1
    have q0 := B02.out.cell
    have f0 := B02.out.frozen
    go_upto_region 4 with fail
    have B03 := B02
    have B13 := B12
    have R3 := R2
    have X3 := X2
    clear q0 f0
    obtain ⟨w3, hw3⟩ : ∃ w3, w3 = w2 := ⟨_, rfl⟩
    subst hw3
    have q0 := B03.out.cell
    have q1 := B13.out.cell
    have f1 := B13.out.frozen
    go_wp2_with fail
    change bodyPost _ _ _ _ _ (put w3 (w.heap.size + 1) 0 [.int .i64 s1, .int .i64 s2, .bool s3, .int .i64 s4, .int .i64 s5, .int .i64 s6, .int .i64 s7, .bool s8, .slice a1 n c1])
    have C4 := put_all (vs := [.int .i64 s1, .int .i64 s2, .bool s3, .int .i64 s4, .int .i64 s5, .int .i64 s6, .int .i64 s7, .bool s8, .slice a1 n c1]) B13.out rfl
    have X4 := put_ext (a := w) (Nat.le_succ _) [.int .i64 s1, .int .i64 s2, .bool s3, .int .i64 s4, .int .i64 s5, .int .i64 s6, .int .i64 s7, .bool s8, .slice a1 n c1] 0 _ X3.out
    have R4 := (R3.out.agree (agree_put (V := fun g => g = b1 ∨ g = w.heap.size + 1 ∨ Old w g) (B := w.heap.size + 1) (.inr (.inl rfl)) [.int .i64 s1, .int .i64 s2, .bool s3, .int .i64 s4, .int .i64 s5, .int .i64 s6, .int .i64 s7, .bool s8, .slice a1 n c1] 0 w3)).weak (by omega) (V' := Old w) (fun g _ hg => .inr (.inr hg))
    generalize put w3 (w.heap.size + 1) 0 [.int .i64 s1, .int .i64 s2, .bool s3, .int .i64 s4, .int .i64 s5, .int .i64 s6, .int .i64 s7, .bool s8, .slice a1 n c1] = w4 at *
    have c4 := C4.cell
    exact bodyPost_ret (v := .agg #[.int .i64 s1, .int .i64 s2, .bool s3, .int .i64 s4, .int .i64 s5, .int .i64 s6, .int .i64 s7, .bool s8, .slice a1 n c1]) (by simp [results, Try.results10, go_sem, c4]) rfl (HF.out _ _ _ X4 R4)
end Go.Proofs.Ytimnepfdpehdmaa

namespace Go.Proofs.Ytimnepfdpehdmaa
open Go.RowKit
attribute [local go_sem ↓] Go.wp_at_zero Go.wp_at_succ

set_option maxRecDepth 100000 in
set_option maxHeartbeats 4000000 in
theorem accept_any (s : SSt) (m : Msg) (v u : Value) (bs bm : Nat) (k r : Int) (w : World) (hs : Bk w bs 34 (subC s v)) (hm : Bk w bm 55 (msgC m u)) (hu : RF Any 6 valE w u m.vals) (hl : m.vals.length ≤ 1000000000) (hw : s.lost < 1000000 → IntKind.i64.wrap (s.lost + k) = s.lost + k) :
    Calls Try.prog 51 #[.int .i64 k, .int .i64 r, .pointer (some ⟨bs, 0, none⟩), .pointer (some ⟨bm, 0, none⟩)] w (RetT w (accS s m k, r)) := by
  have HR := Lib.hid (fun w1 => raised_any s.lost k 1000000 w1 hw)
  have HC := Lib.hid (fun w1 (he : Ext w w1) => cloneVals_any m.vals u w1 (hu.ext he) hl)
  obtain ⟨am, cm, rfl, _, _⟩ := hu.form
  have HF : Hid (∀ w' a' c', Ext w w' → RF (Old w) 6 valE w' (.slice a' m.vals.length c') m.vals → RetT w (accS s m k, r) (.returned (.tuple #[.agg #[.int .i64 s.pub, .int .i64 s.rev, .bool true, .int .i64 m.state, .int .i64 m.seq, .int .i64 m.ttl, .int .i64 (raiseS s.lost k), .bool m.test, .slice a' m.vals.length c'], .int .i64 r])) w') := fun w' a' c' he hr => ⟨a', c', rfl, he, hr⟩
  rw [show (if 1000000 ≤ s.lost ∨ 1000000 ≤ s.lost + k then 1000000 else s.lost + k) = raiseS s.lost k from rfl] at HR
  generalize raiseS s.lost k = r7 at *
  generalize hss : RetT w (accS s m k, r) = R at *
  clear hss hu hl hw
  obtain ⟨s1, s2, s3, s4, s5, s6, s7, s8, vs⟩ := s
  obtain ⟨m1, m2, m3, m4, m5, m6, m7, m8, m9, vm⟩ := m
  simp only at *
  generalize hn : vm.length = nm at *
  have HNN := Lib.hid hn
  clear hn
  have lbs := hs.lt
  have lbm := hm.lt
  go_enter Try.func51, Try.ntmps51
  go_wp2_with fail
  have X0 : Ext w (w.alloc (.cells #[.int .i64 0, .int .i64 0, .bool false, .int .i64 0, .int .i64 0, .int .i64 0, .int .i64 0, .bool false, .slice none 0 0] 34)) := (Ext.refl w).alloc _
  have BR := Lib.hid (Bk.new w #[.int .i64 0, .int .i64 0, .bool false, .int .i64 0, .int .i64 0, .int .i64 0, .int .i64 0, .bool false, .slice none 0 0] 34 w.heap.size rfl)
  have BS := hs.ext X0
  have BM := hm.ext X0
  have qs := BS.cell
  have qm := BM.cell
  generalize w.alloc (.cells #[.int .i64 0, .int .i64 0, .bool false, .int .i64 0, .int .i64 0, .int .i64 0, .int .i64 0, .bool false, .slice none 0 0] 34) = W at *
  have HBC := Lib.hid (fun w' (he : Ext W w') => And.intro (BS.ext he).cell (BM.ext he).cell)
  clear hs hm BS BM
  go_region_held3 (fun w' => (∀ j, w'.cell? ⟨bs, j, none⟩ = (#[.int .i64 s1, .int .i64 s2, .bool s3, .int .i64 s4, .int .i64 s5, .int .i64 s6, .int .i64 s7, .bool s8, v] : Array Value)[j]?) ∧ (∀ j, w'.cell? ⟨bm, j, none⟩ = (#[.int .i64 m1, .int .i64 m2, .int .i64 m3, .int .i64 m4, .int .i64 m5, .int .i64 m6, .int .i64 m7, .bool m8, .int .i64 m9, .slice am nm cm] : Array Value)[j]?))
    (first | (with_reducible exact ⟨qs, qm⟩) | (exact HBC.out _ (by first | (with_reducible exact (Ext.refl W).drew) | (with_reducible exact E2))) | (refine ⟨fun j => ?_, fun j => ?_⟩ <;> (repeat rw [World.cell?_setCell_other _ _ _ _ (by first | (simp; done) | (simp; omega))]) <;> first | (with_reducible exact (HBC.out _ E2).1 j) | (with_reducible exact (HBC.out _ E2).2 j)) | fail)
    (first
      | (go_at_call 52; (with_reducible refine (HR.out _).mono ?_); rintro e w1 ⟨rfl, rfl⟩)
      | (go_at_call 37; (with_reducible refine (HC.out _ X0.drew).mono ?_); rintro e w2 ⟨a2, c2, he, x2, r2⟩; rw [HNN.out] at he r2; subst he; have E2 : Ext W w2 := (Ext.refl W).drew.trans x2; have R2 := Lib.hid r2; have BR2 := Lib.hid (BR.out.ext E2); have q2 := BR2.out.cell; have f2 := BR2.out.frozen; clear r2)
      | fail)
  all_goals
    change Exit.then _ _ _ _ (put w2 w.heap.size 0 [.int .i64 s1, .int .i64 s2, .bool true, .int .i64 m6, .int .i64 m7, .int .i64 m2, .int .i64 r7, .bool m8, .slice a2 nm c2])
    have C3 := put_all (vs := [.int .i64 s1, .int .i64 s2, .bool true, .int .i64 m6, .int .i64 m7, .int .i64 m2, .int .i64 r7, .bool m8, .slice a2 nm c2]) BR2.out rfl
    have X3 := put_ext (Nat.le_refl w.heap.size) [.int .i64 s1, .int .i64 s2, .bool true, .int .i64 m6, .int .i64 m7, .int .i64 m2, .int .i64 r7, .bool m8, .slice a2 nm c2] 0 w2 (X0.drew.trans x2)
    have R3 := (R2.out.agree (agree_put (V := Old W.drew) (B := w.heap.size) BR.out.lt [.int .i64 s1, .int .i64 s2, .bool true, .int .i64 m6, .int .i64 m7, .int .i64 m2, .int .i64 r7, .bool m8, .slice a2 nm c2] 0 w2)).weak (by omega) (V' := Old w) (fun g _ hg => X0.lt hg)
    generalize put w2 w.heap.size 0 _ = w3 at *
    have c3 := C3.cell
    have HC3 := Lib.hid C3
    clear C3 q2 f2 x2 qs qm
    go_wp2_with fail
    refine bodyPost_ret (v := .tuple #[.agg #[.int .i64 s1, .int .i64 s2, .bool true, .int .i64 m6, .int .i64 m7, .int .i64 m2, .int .i64 r7, .bool m8, .slice a2 nm c2], .int .i64 r]) (by simp [results, Try.results51, go_sem, c3]) rfl (HF.out _ _ _ X3 R3)
end Go.Proofs.Ytimnepfdpehdmaa
