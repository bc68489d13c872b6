/- Small functions of layer 14: contracts. -/
import Derived.Test.YtopmhaebjpmbfaaSubP
import Derived.Test.YtopmhaebjpmbfaaPubA
import Derived.Deep.DeepCutAuto
namespace Go.Proofs.Ytopmhaebjpmbfaa
open Go.RowKit
attribute [local go_sem ↓] Go.wp_at_zero Go.wp_at_succ

abbrev subC (s : SSt) (v : Value) : Array Value := #[.int .i64 s.pub, .int .i64 s.rev, .bool s.known, .int .i64 s.state, .int .i64 s.seq, .int .i64 s.left, .int .i64 s.lost, .bool s.test, v]
abbrev subA (s : SSt) (v : Value) : Value := .agg #[.int .i64 s.pub, .int .i64 s.rev, .bool s.known, .int .i64 s.state, .int .i64 s.seq, .int .i64 s.left, .int .i64 s.lost, .bool s.test, v]
abbrev msgC (m : Msg) (v : Value) : Array Value := #[.int .i64 m.pub, .int .i64 m.ttl, .int .i64 m.sec, .int .i64 m.frac, .int .i64 m.qual, .int .i64 m.state, .int .i64 m.seq, .bool m.test, .int .i64 m.rev, v]
/-- A subscriber in new memory. -/
def RetS (w : World) (s : SSt) (e : Ending) (w' : World) : Prop := ∃ a c, e = .returned (subA s (.slice a s.vals.length c)) ∧ Ext w w' ∧ RF (Old w) 6 valE w' (.slice a s.vals.length c) s.vals
def RetT (w : World) (t : SSt × Int) (e : Ending) (w' : World) : Prop := ∃ a c, e = .returned (.tuple #[subA t.1 (.slice a t.1.vals.length c), .int .i64 t.2]) ∧ Ext w w' ∧ RF (Old w) 6 valE w' (.slice a t.1.vals.length c) t.1.vals
theorem info_sub : (Try.prog.info? 50).map (·.size) = some 9 := by kernel_rfl
theorem remainder_any (n m : Int) (w : World) (hm : 1 ≤ m) (hm2 : m ≤ 4294967296) : Calls Try.prog 66 #[.int .i64 n, .int .i64 m] w fun e w' => e = .returned (.int .i64 (n % m)) ∧ w = w' := by
  have h1 := Int.emod_nonneg n (show m ≠ 0 by omega)
  have h2 := Int.emod_lt_of_pos n (show 0 < m by omega)
  have h3 : (m == 0) = false := by simp; omega
  have e1 : n.tmod m = n % m ∨ (n.tmod m < 0 ∧ n.tmod m + m = n % m) := by
    rcases Int.lt_or_le n 0 with hn | hn
    · by_cases hz : m ∣ n
      · left
        rw [Int.tmod_eq_zero_of_dvd hz, Int.emod_eq_zero_of_dvd hz]
      · right
        rw [Int.tmod_eq_emod]
        rw [if_neg (by intro hh; rcases hh with hh | hh; · omega
                       · exact hz hh)]
        have : (m.natAbs : Int) = m := by omega
        rw [this]
        omega
    · left; exact Int.tmod_eq_emod_of_nonneg hn
  generalize n % m = r at *
  generalize hq : n.tmod m = q at *
  have HM2 := Lib.hid hm2
  rcases e1 with e1 | ⟨e1, e2⟩
  · subst e1
    clear hm2
    go_enter Try.func66, Try.ntmps66
    go_wp2
    go_ret
    exact ⟨rfl, rfl⟩
  · have hr : r = q + m := by omega
    have ew : IntKind.i64.wrap (q + m) = q + m := IntWalk.i64_in _ (by omega)
    subst hr
    clear hm2
    go_enter Try.func66, Try.ntmps66
    go_wp2
    go_ret
    exact ⟨rfl, rfl⟩
set_option maxRecDepth 100000 in
theorem newer_any (a b : Int) (w : World) : Calls Try.prog 56 #[.int .i64 a, .int .i64 b] w fun e w' => e = .returned (.tuple #[.int .i64 (dist a b), .bool (newB a b)]) ∧ w = w' := by
  have R := Lib.hid (fun n w1 => remainder_any n 4294967295 w1 (by omega) (by omega))
  have ew : IntKind.i64.wrap (b % 4294967295 - a % 4294967295) = b % 4294967295 - a % 4294967295 := IntWalk.i64_in _ (by omega)
  have hd : dist a b = (b % 4294967295 - a % 4294967295) % 4294967295 := rfl
  have hn : newB a b = (decide (1 ≤ dist a b) && decide (dist a b ≤ 2147483647)) := rfl
  rw [hn]
  clear hn
  generalize dist a b = d at *
  have HD := Lib.hid hd
  clear hd
  have RA := Lib.hid (fun w1 => R.out a w1)
  have RB := Lib.hid (fun w1 => R.out b w1)
  have RC := Lib.hid (fun w1 => R.out (b % 4294967295 - a % 4294967295) w1)
  rw [← HD.out] at RC
  clear R HD
  generalize b % 4294967295 = x at *
  generalize a % 4294967295 = y at *
  by_cases c1 : 1 ≤ d
  · have e1 : decide (1 ≤ d) = true := by simpa using c1
    rw [e1, Bool.true_and]
    obtain ⟨q, hq⟩ : ∃ q, decide (d ≤ 2147483647) = q := ⟨_, rfl⟩
    rw [hq]
    clear c1
    go_enter Try.func56, Try.ntmps56
    go_wp2_with fail
    refine (RB.out _).mono ?_
    rintro e w1 ⟨rfl, rfl⟩
    go_wp2_with fail
    refine (RA.out _).mono ?_
    rintro e w1 ⟨rfl, rfl⟩
    go_wp2_with fail
    refine (RC.out _).mono ?_
    rintro e w1 ⟨rfl, rfl⟩
    go_wp2_with fail
    go_ret2
    exact ⟨rfl, rfl⟩
  · have e1 : decide (1 ≤ d) = false := by simpa using c1
    rw [e1, Bool.false_and]
    clear c1
    go_enter Try.func56, Try.ntmps56
    go_wp2_with fail
    refine (RB.out _).mono ?_
    rintro e w1 ⟨rfl, rfl⟩
    go_wp2_with fail
    refine (RA.out _).mono ?_
    rintro e w1 ⟨rfl, rfl⟩
    go_wp2_with fail
    refine (RC.out _).mono ?_
    rintro e w1 ⟨rfl, rfl⟩
    go_wp2_with fail
    go_ret2
    exact ⟨rfl, rfl⟩
theorem raised_any (n k m : Int) (w : World) (hw : n < m → IntKind.i64.wrap (n + k) = n + k) : Calls Try.prog 53 #[.int .i64 n, .int .i64 k, .int .i64 m] w fun e w' => e = .returned (.int .i64 (if m ≤ n ∨ m ≤ n + k then m else n + k)) ∧ w = w' := by
  by_cases h1 : m ≤ n
  · rw [if_pos (.inl h1)]
    have e1 : decide (m ≤ n) = true := by simpa using h1
    clear h1 hw
    go_enter Try.func53, Try.ntmps53
    go_wp2
    go_ret
    exact ⟨rfl, rfl⟩
  · have e1 : decide (m ≤ n) = false := by simpa using h1
    replace hw := hw (by omega)
    by_cases h2 : m ≤ n + k
    · rw [if_pos (.inr h2)]
      have e2 : decide (m ≤ n + k) = true := by simpa using h2
      clear h1 h2
      go_enter Try.func53, Try.ntmps53
      go_wp2
      go_ret
      exact ⟨rfl, rfl⟩
    · rw [if_neg (by omega)]
      have e2 : decide (m ≤ n + k) = false := by simpa using h2
      clear h1 h2
      go_enter Try.func53, Try.ntmps53
      go_wp2
      go_ret
      exact ⟨rfl, rfl⟩
theorem newSub_any (p r : Int) (w : World) : Calls Try.prog 31 #[.int .i64 p, .int .i64 r] w fun e w' => e = .returned (subA (newSub p r) (.slice none 0 0)) ∧ Ext w w' := by
  go_enter Try.func31, Try.ntmps31
  go_wp2
  exact bodyPost_ret (v := .agg #[.int .i64 p, .int .i64 r, .bool false, .int .i64 0, .int .i64 0, .int .i64 0, .int .i64 0, .bool false, .slice none 0 0]) (by simp [results, Try.results31, go_sem]) rfl ⟨rfl, (Ext.refl _).alloc _⟩
theorem valid_any (s : SSt) (v : Value) (w : World) : Calls Try.prog 42 #[subA s v] w fun e w' => e = .returned (.bool (validS s)) ∧ Ext w w' := by
  obtain ⟨s1, s2, s3, s4, s5, s6, s7, s8, vs⟩ := s
  simp only [validS]
  cases s3 <;> cases s8
  all_goals
    obtain ⟨q, hq⟩ : ∃ q, decide (0 < s6) = q := ⟨_, rfl⟩
    rw [hq]
    cases q
    all_goals
      go_enter Try.func42, Try.ntmps42
      go_wp2_with fail
      go_ret
      exact ⟨rfl, (Ext.refl _).alloc _⟩
set_option maxRecDepth 100000 in
set_option maxHeartbeats 2000000 in
theorem dupSub_any {V : Nat → Prop} (s : SSt) (v : Value) (w : World) (h : RF V 6 valE w v s.vals) (hl : s.vals.length ≤ 1000000000) : Calls Try.prog 55 #[subA s v] w (RetS w s) := by
  have HC := Lib.hid (fun w1 (he : Ext w w1) => cloneVals_any s.vals v w1 (h.ext he) hl)
  obtain ⟨a, c, rfl, _, _⟩ := h.form
  have HF : Hid (∀ w' a' c', Ext w w' → RF (Old w) 6 valE w' (.slice a' s.vals.length c') s.vals → RetS w s (.returned (subA s (.slice a' s.vals.length c'))) w') := fun w' a' c' he hr => ⟨a', c', rfl, he, hr⟩
  generalize hss : RetS w s = R at *
  clear hss h hl
  obtain ⟨s1, s2, s3, s4, s5, s6, s7, s8, vs⟩ := s
  simp only at *
  generalize hn : vs.length = n at *
  have HNN := Lib.hid hn
  clear hn
  go_enter Try.func55, Try.ntmps55
  go_wp2_with fail
  have X0 : Ext w ((w.alloc (.cells #[.int .i64 s1, .int .i64 s2, .bool s3, .int .i64 s4, .int .i64 s5, .int .i64 s6, .int .i64 s7, .bool s8, .slice a n c] 50)).alloc (.cells #[.int .i64 0, .int .i64 0, .bool false, .int .i64 0, .int .i64 0, .int .i64 0, .int .i64 0, .bool false, .slice none 0 0] 50)) := ((Ext.refl w).alloc _).alloc _
  have B0 := Lib.hid ((Bk.new w #[.int .i64 s1, .int .i64 s2, .bool s3, .int .i64 s4, .int .i64 s5, .int .i64 s6, .int .i64 s7, .bool s8, .slice a n c] 50 w.heap.size rfl).alloc (.cells #[.int .i64 0, .int .i64 0, .bool false, .int .i64 0, .int .i64 0, .int .i64 0, .int .i64 0, .bool false, .slice none 0 0] 50))
  have B1 := Lib.hid (Bk.new (w.alloc (.cells #[.int .i64 s1, .int .i64 s2, .bool s3, .int .i64 s4, .int .i64 s5, .int .i64 s6, .int .i64 s7, .bool s8, .slice a n c] 50)) #[.int .i64 0, .int .i64 0, .bool false, .int .i64 0, .int .i64 0, .int .i64 0, .int .i64 0, .bool false, .slice none 0 0] 50 (w.heap.size + 1) (by simp))
  refine (HC.out _ X0).mono ?_
  generalize (w.alloc (.cells #[.int .i64 s1, .int .i64 s2, .bool s3, .int .i64 s4, .int .i64 s5, .int .i64 s6, .int .i64 s7, .bool s8, .slice a n c] 50)).alloc (.cells #[.int .i64 0, .int .i64 0, .bool false, .int .i64 0, .int .i64 0, .int .i64 0, .int .i64 0, .bool false, .slice none 0 0] 50) = W at *
  rintro e w1 ⟨a1, c1, he, x1, r1⟩
  rw [HNN.out] at he r1
  subst he
  have B01 := Lib.hid (B0.out.ext x1)
  have B11 := Lib.hid (B1.out.ext x1)
  have q0 := B01.out.cell
  have f0 := B01.out.frozen
  go_upto_region 2 with fail
  have B02 := Lib.hid (show Bk (w1.setCell ⟨w.heap.size, 8, none⟩ (.slice a1 n c1)) w.heap.size 50 #[.int .i64 s1, .int .i64 s2, .bool s3, .int .i64 s4, .int .i64 s5, .int .i64 s6, .int .i64 s7, .bool s8, .slice a1 n c1] from B01.out.setCell 8 (.slice a1 n c1))
  have B12 := Lib.hid (B11.out.setOther (show w.heap.size ≠ w.heap.size + 1 by omega) 8 (.slice a1 n c1))
  have R2 := Lib.hid (r1.agree (agree_setCell (V := Old W) (p := ⟨w.heap.size, 8, none⟩) B0.out.lt (.slice a1 n c1)))
  have X2 := Lib.hid ((X0.trans x1).setCell (p := ⟨w.heap.size, 8, none⟩) (Nat.le_refl _) (.slice a1 n c1))
  clear q0 f0
  generalize w1.setCell ⟨w.heap.size, 8, none⟩ (.slice a1 n c1) = w2 at *
  have q0 := B02.out.cell
  have q1 := B12.out.cell
  have f1 := B12.out.frozen
  go_wp2_with fail
  change bodyPost _ _ _ _ _ (put w2 (w.heap.size + 1) 0 [.int .i64 s1, .int .i64 s2, .bool s3, .int .i64 s4, .int .i64 s5, .int .i64 s6, .int .i64 s7, .bool s8, .slice a1 n c1])
  have C3 := put_all (vs := [.int .i64 s1, .int .i64 s2, .bool s3, .int .i64 s4, .int .i64 s5, .int .i64 s6, .int .i64 s7, .bool s8, .slice a1 n c1]) B12.out rfl
  have X3 := put_ext (a := w) (Nat.le_succ _) [.int .i64 s1, .int .i64 s2, .bool s3, .int .i64 s4, .int .i64 s5, .int .i64 s6, .int .i64 s7, .bool s8, .slice a1 n c1] 0 _ X2.out
  have R3 := (R2.out.agree (agree_put (V := Old W) (B := w.heap.size + 1) B1.out.lt [.int .i64 s1, .int .i64 s2, .bool s3, .int .i64 s4, .int .i64 s5, .int .i64 s6, .int .i64 s7, .bool s8, .slice a1 n c1] 0 w2)).weak (by omega) (V' := Old w) (fun g _ hg => X0.lt hg)
  generalize put w2 (w.heap.size + 1) 0 [.int .i64 s1, .int .i64 s2, .bool s3, .int .i64 s4, .int .i64 s5, .int .i64 s6, .int .i64 s7, .bool s8, .slice a1 n c1] = w3 at *
  have c3 := C3.cell
  exact bodyPost_ret (v := .agg #[.int .i64 s1, .int .i64 s2, .bool s3, .int .i64 s4, .int .i64 s5, .int .i64 s6, .int .i64 s7, .bool s8, .slice a1 n c1]) (by simp [results, Try.results55, go_sem, c3]) rfl (HF.out _ _ _ X3 R3)
set_option maxRecDepth 100000 in
set_option maxHeartbeats 4000000 in
theorem tick_any {V : Nat → Prop} (s : SSt) (v : Value) (w : World) (h : RF V 6 valE w v s.vals) (hl : s.vals.length ≤ 1000000000) (hlf : s.left ≤ 1000000) : Calls Try.prog 33 #[subA s v] w (RetS w (tickS s)) := by
  have HC := Lib.hid (fun w1 (he : Ext w w1) => dupSub_any s v w1 (h.ext he) hl)
  obtain ⟨a, c, rfl, _, _⟩ := h.form
  have HF : Hid (∀ w' a' c', Ext w w' → RF (Old w) 6 valE w' (.slice a' s.vals.length c') s.vals → RetS w (tickS s) (.returned (.agg #[.int .i64 s.pub, .int .i64 s.rev, .bool s.known, .int .i64 s.state, .int .i64 s.seq, .int .i64 (if 0 < s.left then s.left - 1 else s.left), .int .i64 s.lost, .bool s.test, .slice a' s.vals.length c'])) w') := fun w' a' c' he hr => by
    unfold tickS
    by_cases h0 : 0 < s.left
    · rw [if_pos h0, if_pos h0]; exact ⟨a', c', rfl, he, hr⟩
    · rw [if_neg h0, if_neg h0]; exact ⟨a', c', rfl, he, hr⟩
  generalize hss : RetS w (tickS s) = R at *
  clear hss h hl
  obtain ⟨s1, s2, s3, s4, s5, s6, s7, s8, vs⟩ := s
  simp only at *
  generalize hn : vs.length = n at *
  have HNN := Lib.hid hn
  clear hn
  have ew : 0 < s6 → IntKind.i64.wrap (s6 - 1) = s6 - 1 := fun _ => IntWalk.i64_in _ (by omega)
  clear hlf
  by_cases h0 : 0 < s6
  · have ew2 := ew h0
    have e0 : decide (0 < s6) = true := by simpa using h0
    rw [if_pos h0] at HF
    clear ew
    go_enter Try.func33, Try.ntmps33
    go_wp2_with fail
    have X0 : Ext w ((w.alloc (.cells #[.int .i64 s1, .int .i64 s2, .bool s3, .int .i64 s4, .int .i64 s5, .int .i64 s6, .int .i64 s7, .bool s8, .slice a n c] 50)).alloc (.cells #[.int .i64 0, .int .i64 0, .bool false, .int .i64 0, .int .i64 0, .int .i64 0, .int .i64 0, .bool false, .slice none 0 0] 50)) := ((Ext.refl w).alloc _).alloc _
    have B1 := Lib.hid (Bk.new (w.alloc (.cells #[.int .i64 s1, .int .i64 s2, .bool s3, .int .i64 s4, .int .i64 s5, .int .i64 s6, .int .i64 s7, .bool s8, .slice a n c] 50)) #[.int .i64 0, .int .i64 0, .bool false, .int .i64 0, .int .i64 0, .int .i64 0, .int .i64 0, .bool false, .slice none 0 0] 50 (w.heap.size + 1) (by simp))
    refine (HC.out _ X0).mono ?_
    generalize (w.alloc (.cells #[.int .i64 s1, .int .i64 s2, .bool s3, .int .i64 s4, .int .i64 s5, .int .i64 s6, .int .i64 s7, .bool s8, .slice a n c] 50)).alloc (.cells #[.int .i64 0, .int .i64 0, .bool false, .int .i64 0, .int .i64 0, .int .i64 0, .int .i64 0, .bool false, .slice none 0 0] 50) = W at *
    rintro e w1 ⟨a1, c1, he, x1, r1⟩
    simp only [HNN.out] at he r1
    subst he
    have B11 := Lib.hid (B1.out.ext x1)
    go_upto_region 2 with fail
    have B12 := Lib.hid (B11.out.alloc (.cells #[.int .i64 s1, .int .i64 s2, .bool s3, .int .i64 s4, .int .i64 s5, .int .i64 s6, .int .i64 s7, .bool s8, .slice a1 n c1] 50))
    have B02 := Lib.hid (Bk.new w1 #[.int .i64 s1, .int .i64 s2, .bool s3, .int .i64 s4, .int .i64 s5, .int .i64 s6, .int .i64 s7, .bool s8, .slice a1 n c1] 50 w1.heap.size rfl)
    have R2 := Lib.hid (((r1.weak (by omega) (V' := fun g => g = w1.heap.size ∨ g = w.heap.size + 1 ∨ Old w g) (fun g hg1 hg => hg.elim (fun e => by exfalso; omega) (fun e => e.elim (fun e => by rw [e]; exact B1.out.lt) (fun h => X0.lt h)))).ext ((Ext.refl w1).alloc (.cells #[.int .i64 s1, .int .i64 s2, .bool s3, .int .i64 s4, .int .i64 s5, .int .i64 s6, .int .i64 s7, .bool s8, .slice a1 n c1] 50))))
    have X2 := Lib.hid ((X0.trans x1).alloc (.cells #[.int .i64 s1, .int .i64 s2, .bool s3, .int .i64 s4, .int .i64 s5, .int .i64 s6, .int .i64 s7, .bool s8, .slice a1 n c1] 50))
    have hne : w.heap.size + 1 < w1.heap.size := B11.out.lt
    generalize w1.alloc (.cells #[.int .i64 s1, .int .i64 s2, .bool s3, .int .i64 s4, .int .i64 s5, .int .i64 s6, .int .i64 s7, .bool s8, .slice a1 n c1] 50) = w2 at *
    generalize w1.heap.size = b1 at *
    clear B11 x1 r1
    have q0 := B02.out.cell
    have f0 := B02.out.frozen
    go_upto_region 4 with fail
    have B03 := Lib.hid (show Bk (w2.setCell ⟨b1, 5, none⟩ (.int .i64 (s6 - 1))) b1 50 #[.int .i64 s1, .int .i64 s2, .bool s3, .int .i64 s4, .int .i64 s5, .int .i64 (s6 - 1), .int .i64 s7, .bool s8, .slice a1 n c1] from B02.out.setCell 5 (.int .i64 (s6 - 1)))
    have B13 := Lib.hid (B12.out.setOther (show b1 ≠ w.heap.size + 1 by omega) 5 (.int .i64 (s6 - 1)))
    have R3 := Lib.hid (R2.out.agree (agree_setCell (V := fun g => g = b1 ∨ g = w.heap.size + 1 ∨ Old w g) (p := ⟨b1, 5, none⟩) (.inl rfl) (.int .i64 (s6 - 1))))
    have X3 := Lib.hid (X2.out.setCell (p := ⟨b1, 5, none⟩) (by simp only; omega) (.int .i64 (s6 - 1)))
    clear q0 f0
    generalize w2.setCell ⟨b1, 5, none⟩ (.int .i64 (s6 - 1)) = w3 at *
    have q0 := B03.out.cell
    have q1 := B13.out.cell
    have f1 := B13.out.frozen
    go_wp2_with fail
    change bodyPost _ _ _ _ _ (put w3 (w.heap.size + 1) 0 [.int .i64 s1, .int .i64 s2, .bool s3, .int .i64 s4, .int .i64 s5, .int .i64 (s6 - 1), .int .i64 s7, .bool s8, .slice a1 n c1])
    have C4 := put_all (vs := [.int .i64 s1, .int .i64 s2, .bool s3, .int .i64 s4, .int .i64 s5, .int .i64 (s6 - 1), .int .i64 s7, .bool s8, .slice a1 n c1]) B13.out rfl
    have X4 := put_ext (a := w) (Nat.le_succ _) [.int .i64 s1, .int .i64 s2, .bool s3, .int .i64 s4, .int .i64 s5, .int .i64 (s6 - 1), .int .i64 s7, .bool s8, .slice a1 n c1] 0 _ X3.out
    have R4 := (R3.out.agree (agree_put (V := fun g => g = b1 ∨ g = w.heap.size + 1 ∨ Old w g) (B := w.heap.size + 1) (.inr (.inl rfl)) [.int .i64 s1, .int .i64 s2, .bool s3, .int .i64 s4, .int .i64 s5, .int .i64 (s6 - 1), .int .i64 s7, .bool s8, .slice a1 n c1] 0 w3)).weak (by omega) (V' := Old w) (fun g _ hg => .inr (.inr hg))
    generalize put w3 (w.heap.size + 1) 0 [.int .i64 s1, .int .i64 s2, .bool s3, .int .i64 s4, .int .i64 s5, .int .i64 (s6 - 1), .int .i64 s7, .bool s8, .slice a1 n c1] = w4 at *
    have c4 := C4.cell
    exact bodyPost_ret (v := .agg #[.int .i64 s1, .int .i64 s2, .bool s3, .int .i64 s4, .int .i64 s5, .int .i64 (s6 - 1), .int .i64 s7, .bool s8, .slice a1 n c1]) (by simp [results, Try.results33, go_sem, c4]) rfl (HF.out _ _ _ X4 R4)
  · have e0 : decide (0 < s6) = false := by simpa using h0
    rw [if_neg h0] at HF
    clear ew
    go_enter Try.func33, Try.ntmps33
    go_wp2_with fail
    have X0 : Ext w ((w.alloc (.cells #[.int .i64 s1, .int .i64 s2, .bool s3, .int .i64 s4, .int .i64 s5, .int .i64 s6, .int .i64 s7, .bool s8, .slice a n c] 50)).alloc (.cells #[.int .i64 0, .int .i64 0, .bool false, .int .i64 0, .int .i64 0, .int .i64 0, .int .i64 0, .bool false, .slice none 0 0] 50)) := ((Ext.refl w).alloc _).alloc _
    have B1 := Lib.hid (Bk.new (w.alloc (.cells #[.int .i64 s1, .int .i64 s2, .bool s3, .int .i64 s4, .int .i64 s5, .int .i64 s6, .int .i64 s7, .bool s8, .slice a n c] 50)) #[.int .i64 0, .int .i64 0, .bool false, .int .i64 0, .int .i64 0, .int .i64 0, .int .i64 0, .bool false, .slice none 0 0] 50 (w.heap.size + 1) (by simp))
    refine (HC.out _ X0).mono ?_
    generalize (w.alloc (.cells #[.int .i64 s1, .int .i64 s2, .bool s3, .int .i64 s4, .int .i64 s5, .int .i64 s6, .int .i64 s7, .bool s8, .slice a n c] 50)).alloc (.cells #[.int .i64 0, .int .i64 0, .bool false, .int .i64 0, .int .i64 0, .int .i64 0, .int .i64 0, .bool false, .slice none 0 0] 50) = W at *
    rintro e w1 ⟨a1, c1, he, x1, r1⟩
    simp only [HNN.out] at he r1
    subst he
    have B11 := Lib.hid (B1.out.ext x1)
    go_upto_region 2 with fail
    have B12 := Lib.hid (B11.out.alloc (.cells #[.int .i64 s1, .int .i64 s2, .bool s3, .int .i64 s4, .int .i64 s5, .int .i64 s6, .int .i64 s7, .bool s8, .slice a1 n c1] 50))
    have B02 := Lib.hid (Bk.new w1 #[.int .i64 s1, .int .i64 s2, .bool s3, .int .i64 s4, .int .i64 s5, .int .i64 s6, .int .i64 s7, .bool s8, .slice a1 n c1] 50 w1.heap.size rfl)
    have R2 := Lib.hid (((r1.weak (by omega) (V' := fun g => g = w1.heap.size ∨ g = w.heap.size + 1 ∨ Old w g) (fun g hg1 hg => hg.elim (fun e => by exfalso; omega) (fun e => e.elim (fun e => by rw [e]; exact B1.out.lt) (fun h => X0.lt h)))).ext ((Ext.refl w1).alloc (.cells #[.int .i64 s1, .int .i64 s2, .bool s3, .int .i64 s4, .int .i64 s5, .int .i64 s6, .int .i64 s7, .bool s8, .slice a1 n c1] 50))))
    have X2 := Lib.hid ((X0.trans x1).alloc (.cells #[.int .i64 s1, .int .i64 s2, .bool s3, .int .i64 s4, .int .i64 s5, .int .i64 s6, .int .i64 s7, .bool s8, .slice a1 n c1] 50))
    have hne : w.heap.size + 1 < w1.heap.size := B11.out.lt
    generalize w1.alloc (.cells #[.int .i64 s1, .int .i64 s2, .bool s3, .int .i64 s4, .int .i64 s5, .int .i64 s6, .int .i64 s7, .bool s8, .slice a1 n c1] 50) = w2 at *
    generalize w1.heap.size = b1 at *
    clear B11 x1 r1
    have q0 := B02.out.cell
    have f0 := B02.out.frozen
    go_upto_region 4 with fail
    have B03 := B02
    have B13 := B12
    have R3 := R2
    have X3 := X2
    clear q0 f0
    obtain ⟨w3, hw3⟩ : ∃ w3, w3 = w2 := ⟨_, rfl⟩
    subst hw3
    have q0 := B03.out.cell
    have q1 := B13.out.cell
    have f1 := B13.out.frozen
    go_wp2_with fail
    change bodyPost _ _ _ _ _ (put w3 (w.heap.size + 1) 0 [.int .i64 s1, .int .i64 s2, .bool s3, .int .i64 s4, .int .i64 s5, .int .i64 s6, .int .i64 s7, .bool s8, .slice a1 n c1])
    have C4 := put_all (vs := [.int .i64 s1, .int .i64 s2, .bool s3, .int .i64 s4, .int .i64 s5, .int .i64 s6, .int .i64 s7, .bool s8, .slice a1 n c1]) B13.out rfl
    have X4 := put_ext (a := w) (Nat.le_succ _) [.int .i64 s1, .int .i64 s2, .bool s3, .int .i64 s4, .int .i64 s5, .int .i64 s6, .int .i64 s7, .bool s8, .slice a1 n c1] 0 _ X3.out
    have R4 := (R3.out.agree (agree_put (V := fun g => g = b1 ∨ g = w.heap.size + 1 ∨ Old w g) (B := w.heap.size + 1) (.inr (.inl rfl)) [.int .i64 s1, .int .i64 s2, .bool s3, .int .i64 s4, .int .i64 s5, .int .i64 s6, .int .i64 s7, .bool s8, .slice a1 n c1] 0 w3)).weak (by omega) (V' := Old w) (fun g _ hg => .inr (.inr hg))
    generalize put w3 (w.heap.size + 1) 0 [.int .i64 s1, .int .i64 s2, .bool s3, .int .i64 s4, .int .i64 s5, .int .i64 s6, .int .i64 s7, .bool s8, .slice a1 n c1] = w4 at *
    have c4 := C4.cell
    exact bodyPost_ret (v := .agg #[.int .i64 s1, .int .i64 s2, .bool s3, .int .i64 s4, .int .i64 s5, .int .i64 s6, .int .i64 s7, .bool s8, .slice a1 n c1]) (by simp [results, Try.results33, go_sem, c4]) rfl (HF.out _ _ _ X4 R4)
set_option maxRecDepth 100000 in
set_option maxHeartbeats 4000000 in
theorem sameSub_eq (s : SSt) (v v' : Value) (w : World) (h : RF Any 6 valE w v s.vals) (h' : RF Any 6 valE w v' s.vals) : Calls Try.prog 28 #[subA s v, subA s v'] w fun e w' => e = .returned (.bool true) ∧ Ext w w' := by
  have HSa := Lib.hid (fun w1 (he : Ext w w1) => sameVals_any s.vals s.vals v v' w1 (h.ext he) (h'.ext he))
  simp only [decide_true] at HSa
  obtain ⟨a, c, rfl, _, _⟩ := h.form
  obtain ⟨a', c', rfl, _, _⟩ := h'.form
  clear h h'
  obtain ⟨s1, s2, s3, s4, s5, s6, s7, s8, vs⟩ := s
  simp only at *
  generalize vs.length = n at *
  go_enter Try.func28, Try.ntmps28
  go_wp2_with fail
  refine (HSa.out _ (((Ext.refl w).alloc _).alloc _)).mono ?_
  rintro e w1 ⟨rfl, x1⟩
  go_wp2_with fail
  go_ret
  exact ⟨rfl, (((Ext.refl w).alloc _).alloc _).trans x1⟩
end Go.Proofs.Ytopmhaebjpmbfaa
