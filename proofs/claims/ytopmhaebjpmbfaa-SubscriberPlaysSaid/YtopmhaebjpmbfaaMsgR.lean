/- The references of layer 12 that only look: between, Check, Same; Same of messages; the statements' own To. -/
import Derived.Test.YtopmhaebjpmbfaaDatS
namespace Go.Proofs.Ytopmhaebjpmbfaa
open Go.RowKit
attribute [local go_sem ↓] Go.wp_at_zero Go.wp_at_succ

theorem between12_any (n lo hi : Int) (w : World) : Calls Try.prog 57 #[.int .i64 n, .int .i64 lo, .int .i64 hi] w fun e w' => e = .returned (.bool (btw n lo hi)) ∧ w = w' := by
  obtain ⟨b, hb⟩ : ∃ b, btw n lo hi = b := ⟨_, rfl⟩
  rw [hb]
  unfold btw at hb
  cases h1 : decide (lo ≤ n)
  · rw [h1] at hb
    subst hb
    go_enter Try.func57, Try.ntmps57
    go_wp2
    go_ret
    exact ⟨rfl, rfl⟩
  · rw [h1, Bool.true_and] at hb
    subst hb
    go_enter Try.func57, Try.ntmps57
    go_wp2
    go_ret
    exact ⟨rfl, rfl⟩
set_option maxRecDepth 100000 in
theorem stamp12_any (a b c : Int) (w : World) : Calls Try.prog 59 #[.agg #[.int .i64 a, .int .i64 b, .int .i64 c]] w fun e w' => e = .returned (.agg #[.int .i64 a, .int .i64 b, .int .i64 c]) ∧ Ext w w' := by
  go_enter Try.func59, Try.ntmps59
  go_wp2
  exact bodyPost_ret (v := .agg #[.int .i64 a, .int .i64 b, .int .i64 c]) (by simp [results, Try.results59, go_sem]) rfl ⟨rfl, ((Ext.refl _).alloc _).alloc _⟩
/-- A message with values of its own. -/
def RetMR (w : World) (m : Msg) (e : Ending) (w' : World) : Prop := ∃ a c, e = .returned (msgA m (.slice a m.vals.length c)) ∧ Ext w w' ∧ RF (Old w) 6 valE w' (.slice a m.vals.length c) m.vals
set_option maxRecDepth 100000 in
set_option maxHeartbeats 8000000 in
theorem to12_any (m : Msg) (v : Value) (w : World) (hv : RF Any 6 valE w v m.vals) (hl : m.vals.length ≤ 1000000) : Calls Try.prog 27 #[msgA m v] w (RetMR w m) := by
  have HA := Lib.hid (fun w1 (he : Ext w w1) => all11_any m.vals v w1 (hv.ext he) hl)
  have HS := Lib.hid (fun w1 => stamp12_any m.sec m.frac m.qual w1)
  obtain ⟨a, c, rfl, _, _⟩ := hv.form
  have HF : Hid (∀ w' a' c', Ext w w' → RF (Old w) 6 valE w' (.slice a' m.vals.length c') m.vals → RetMR w m (.returned (msgA m (.slice a' m.vals.length c'))) w') := fun w' a' c' he hr => ⟨a', c', rfl, he, hr⟩
  obtain ⟨m1, m2, m3, m4, m5, m6, m7, m8, m9, vs⟩ := m
  generalize hcs : RetMR w ⟨m1, m2, m3, m4, m5, m6, m7, m8, m9, vs⟩ = cm at *
  clear hcs hv hl
  simp only at *
  generalize hn : vs.length = n at *
  have HNN := Lib.hid hn
  clear hn
  go_enter Try.func27, Try.ntmps27
  go_wp2_with fail
  have X0 : Ext w ((w.alloc (.cells #[.int .i64 m1, .int .i64 m2, .int .i64 m3, .int .i64 m4, .int .i64 m5, .int .i64 m6, .int .i64 m7, .bool m8, .int .i64 m9, .slice a n c] 39)).alloc (.cells #[.int .i64 0, .int .i64 0, .int .i64 0, .int .i64 0, .int .i64 0, .int .i64 0, .int .i64 0, .bool false, .int .i64 0, .slice none 0 0] 58)) := ((Ext.refl w).alloc _).alloc _
  have B0 := Lib.hid ((Bk.new w #[.int .i64 m1, .int .i64 m2, .int .i64 m3, .int .i64 m4, .int .i64 m5, .int .i64 m6, .int .i64 m7, .bool m8, .int .i64 m9, .slice a n c] 39 w.heap.size rfl).alloc (.cells #[.int .i64 0, .int .i64 0, .int .i64 0, .int .i64 0, .int .i64 0, .int .i64 0, .int .i64 0, .bool false, .int .i64 0, .slice none 0 0] 58))
  have B1 := Lib.hid (Bk.new (w.alloc (.cells #[.int .i64 m1, .int .i64 m2, .int .i64 m3, .int .i64 m4, .int .i64 m5, .int .i64 m6, .int .i64 m7, .bool m8, .int .i64 m9, .slice a n c] 39)) #[.int .i64 0, .int .i64 0, .int .i64 0, .int .i64 0, .int .i64 0, .int .i64 0, .int .i64 0, .bool false, .int .i64 0, .slice none 0 0] 58 (w.heap.size + 1) (by simp))
  generalize ((w.alloc (.cells #[.int .i64 m1, .int .i64 m2, .int .i64 m3, .int .i64 m4, .int .i64 m5, .int .i64 m6, .int .i64 m7, .bool m8, .int .i64 m9, .slice a n c] 39)).alloc (.cells #[.int .i64 0, .int .i64 0, .int .i64 0, .int .i64 0, .int .i64 0, .int .i64 0, .int .i64 0, .bool false, .int .i64 0, .slice none 0 0] 58)) = W at *
  have b0 : ∀ j, W.cell? ⟨w.heap.size, j, none⟩ = (#[.int .i64 m1, .int .i64 m2, .int .i64 m3, .int .i64 m4, .int .i64 m5, .int .i64 m6, .int .i64 m7, .bool m8, .int .i64 m9, .slice a n c] : Array Value)[j]? := B0.out.cell
  have B0d : Hid (∀ j, W.drew.cell? ⟨w.heap.size, j, none⟩ = (#[.int .i64 m1, .int .i64 m2, .int .i64 m3, .int .i64 m4, .int .i64 m5, .int .i64 m6, .int .i64 m7, .bool m8, .int .i64 m9, .slice a n c] : Array Value)[j]?) := Lib.hid B0.out.drew.cell
  go_region_held3 (fun w' => ∀ j, w'.cell? ⟨w.heap.size, j, none⟩ = (#[.int .i64 m1, .int .i64 m2, .int .i64 m3, .int .i64 m4, .int .i64 m5, .int .i64 m6, .int .i64 m7, .bool m8, .int .i64 m9, .slice a n c] : Array Value)[j]?)
    (first | (with_reducible exact B0d.out) | (with_reducible exact b2) | (with_reducible exact bz) | (intro j; (repeat rw [World.cell?_setCell_other _ _ _ _ (by simp)]); exact bz j) | fail)
    (first
      | (go_at_call 59; (with_reducible refine (HS.out _).mono ?_); rintro e w1 ⟨rfl, x1⟩; first
          | (have z := x2.trans x1; have RZ := Lib.hid (R2.out.ext x1); have BZ := Lib.hid (B1.out.drew.ext z); have bz := (B0.out.drew.ext z).cell; have qz := BZ.out.cell; have fz := BZ.out.frozen; obtain ⟨wz, hwz⟩ : ∃ wz, wz = w1 := ⟨_, rfl⟩; subst hwz; clear b2)
          | (have b2 := (B0.out.drew.ext x1).cell))
      | (go_at_call 30; first
          | ((with_reducible refine (HA.out _ (X0.drew.trans x1)).mono ?_); rintro e wz ⟨a2, c2, he, x2, r2⟩; rw [HNN.out] at he r2; subst he; have z := x1.trans x2; have RZ := Lib.hid (r2.weak (by omega) (V' := Old W.drew) (fun g _ hg => x1.lt hg)); have BZ := Lib.hid (B1.out.drew.ext z); have bz := (B0.out.drew.ext z).cell; have qz := BZ.out.cell; have fz := BZ.out.frozen; clear b2 r2)
          | ((with_reducible refine (HA.out _ X0.drew).mono ?_); rintro e w2 ⟨a2, c2, he, x2, r2⟩; rw [HNN.out] at he r2; subst he; have R2 := Lib.hid r2; have b2 := (B0.out.drew.ext x2).cell; clear r2))
      | fail)
  all_goals
    change Exit.then _ _ _ _ (put wz (w.heap.size + 1) 0 [.int .i64 m1, .int .i64 m2, .int .i64 m3, .int .i64 m4, .int .i64 m5, .int .i64 m6, .int .i64 m7, .bool m8, .int .i64 m9, .slice a2 n c2])
    have C3 := put_all (vs := [.int .i64 m1, .int .i64 m2, .int .i64 m3, .int .i64 m4, .int .i64 m5, .int .i64 m6, .int .i64 m7, .bool m8, .int .i64 m9, .slice a2 n c2]) BZ.out rfl
    have X3 := put_ext (Nat.le_succ w.heap.size) [.int .i64 m1, .int .i64 m2, .int .i64 m3, .int .i64 m4, .int .i64 m5, .int .i64 m6, .int .i64 m7, .bool m8, .int .i64 m9, .slice a2 n c2] 0 wz (X0.drew.trans z)
    have R3 := (RZ.out.agree (agree_put (V := Old W.drew) (B := w.heap.size + 1) B1.out.lt [.int .i64 m1, .int .i64 m2, .int .i64 m3, .int .i64 m4, .int .i64 m5, .int .i64 m6, .int .i64 m7, .bool m8, .int .i64 m9, .slice a2 n c2] 0 wz)).weak (by omega) (V' := Old w) (fun g _ hg => X0.lt hg)
    generalize put wz (w.heap.size + 1) 0 _ = w3 at *
    have c3 := C3.cell
    clear C3 bz qz fz b0 z
    go_wp2_with fail
    refine bodyPost_ret (v := .agg #[.int .i64 m1, .int .i64 m2, .int .i64 m3, .int .i64 m4, .int .i64 m5, .int .i64 m6, .int .i64 m7, .bool m8, .int .i64 m9, .slice a2 n c2]) (by simp [results, Try.results27, go_sem, c3]) rfl (HF.out _ _ _ X3 R3)

theorem numOk_iff (m : Msg) : numOk m ↔ btw m.pub 0 999 = true ∧ btw m.ttl 1 65535 = true ∧ btw m.state 1 4294967295 = true ∧ btw m.seq 0 4294967295 = true ∧ btw m.rev 0 4294967295 = true := by
  unfold numOk btw
  simp only [Bool.and_eq_true, decide_eq_true_eq]
  exact ⟨fun h => ⟨⟨h.1, h.2.1⟩, ⟨h.2.2.1, h.2.2.2.1⟩, ⟨h.2.2.2.2.1, h.2.2.2.2.2.1⟩, ⟨h.2.2.2.2.2.2.1, h.2.2.2.2.2.2.2.1⟩, ⟨h.2.2.2.2.2.2.2.2.1, h.2.2.2.2.2.2.2.2.2⟩⟩, fun h => ⟨h.1.1, h.1.2, h.2.1.1, h.2.1.2, h.2.2.1.1, h.2.2.1.2, h.2.2.2.1.1, h.2.2.2.1.2, h.2.2.2.2.1, h.2.2.2.2.2⟩⟩
set_option maxRecDepth 100000 in
set_option maxHeartbeats 4000000 in
theorem checkMR_no (m : Msg) (v : Value) (w : World) (h : ¬ numOk m) : Calls Try.prog 26 #[msgA m v] w fun e w' => e = .returned (.int .i64 2) ∧ Ext w w' := by
  rw [numOk_iff] at h
  obtain ⟨m1, m2, m3, m4, m5, m6, m7, m8, m9, m10⟩ := m
  simp only at h
  cases g1 : btw m1 0 999
  · clear h
    have K1 : Hid (∀ w1, Calls Try.prog 57 #[.int .i64 m1, .int .i64 0, .int .i64 999] w1 fun e w' => e = .returned (.bool false) ∧ w1 = w') := Lib.hid (fun w1 => by have h0 := between12_any m1 0 999 w1; rw [g1] at h0; exact h0)
    clear g1
    go_enter Try.func26, Try.ntmps26
    go_wp2_with (go_at_call 57; (first | (with_reducible refine (K1.out _).mono ?_)); rintro e w1 ⟨rfl, rfl⟩)
    go_ret
    exact ⟨rfl, (Ext.refl _).alloc _⟩
  cases g2 : btw m2 1 65535
  · clear h
    have K1 : Hid (∀ w1, Calls Try.prog 57 #[.int .i64 m1, .int .i64 0, .int .i64 999] w1 fun e w' => e = .returned (.bool true) ∧ w1 = w') := Lib.hid (fun w1 => by have h0 := between12_any m1 0 999 w1; rw [g1] at h0; exact h0)
    have K2 : Hid (∀ w1, Calls Try.prog 57 #[.int .i64 m2, .int .i64 1, .int .i64 65535] w1 fun e w' => e = .returned (.bool false) ∧ w1 = w') := Lib.hid (fun w1 => by have h0 := between12_any m2 1 65535 w1; rw [g2] at h0; exact h0)
    clear g1 g2
    go_enter Try.func26, Try.ntmps26
    go_wp2_with (go_at_call 57; (first | (with_reducible refine (K1.out _).mono ?_) | (with_reducible refine (K2.out _).mono ?_)); rintro e w1 ⟨rfl, rfl⟩)
    go_ret
    exact ⟨rfl, (Ext.refl _).alloc _⟩
  cases g3 : btw m6 1 4294967295
  · clear h
    have K1 : Hid (∀ w1, Calls Try.prog 57 #[.int .i64 m1, .int .i64 0, .int .i64 999] w1 fun e w' => e = .returned (.bool true) ∧ w1 = w') := Lib.hid (fun w1 => by have h0 := between12_any m1 0 999 w1; rw [g1] at h0; exact h0)
    have K2 : Hid (∀ w1, Calls Try.prog 57 #[.int .i64 m2, .int .i64 1, .int .i64 65535] w1 fun e w' => e = .returned (.bool true) ∧ w1 = w') := Lib.hid (fun w1 => by have h0 := between12_any m2 1 65535 w1; rw [g2] at h0; exact h0)
    have K3 : Hid (∀ w1, Calls Try.prog 57 #[.int .i64 m6, .int .i64 1, .int .i64 4294967295] w1 fun e w' => e = .returned (.bool false) ∧ w1 = w') := Lib.hid (fun w1 => by have h0 := between12_any m6 1 4294967295 w1; rw [g3] at h0; exact h0)
    clear g1 g2 g3
    go_enter Try.func26, Try.ntmps26
    go_wp2_with (go_at_call 57; (first | (with_reducible refine (K1.out _).mono ?_) | (with_reducible refine (K2.out _).mono ?_) | (with_reducible refine (K3.out _).mono ?_)); rintro e w1 ⟨rfl, rfl⟩)
    go_ret
    exact ⟨rfl, (Ext.refl _).alloc _⟩
  cases g4 : btw m7 0 4294967295
  · clear h
    have K1 : Hid (∀ w1, Calls Try.prog 57 #[.int .i64 m1, .int .i64 0, .int .i64 999] w1 fun e w' => e = .returned (.bool true) ∧ w1 = w') := Lib.hid (fun w1 => by have h0 := between12_any m1 0 999 w1; rw [g1] at h0; exact h0)
    have K2 : Hid (∀ w1, Calls Try.prog 57 #[.int .i64 m2, .int .i64 1, .int .i64 65535] w1 fun e w' => e = .returned (.bool true) ∧ w1 = w') := Lib.hid (fun w1 => by have h0 := between12_any m2 1 65535 w1; rw [g2] at h0; exact h0)
    have K3 : Hid (∀ w1, Calls Try.prog 57 #[.int .i64 m6, .int .i64 1, .int .i64 4294967295] w1 fun e w' => e = .returned (.bool true) ∧ w1 = w') := Lib.hid (fun w1 => by have h0 := between12_any m6 1 4294967295 w1; rw [g3] at h0; exact h0)
    have K4 : Hid (∀ w1, Calls Try.prog 57 #[.int .i64 m7, .int .i64 0, .int .i64 4294967295] w1 fun e w' => e = .returned (.bool false) ∧ w1 = w') := Lib.hid (fun w1 => by have h0 := between12_any m7 0 4294967295 w1; rw [g4] at h0; exact h0)
    clear g1 g2 g3 g4
    go_enter Try.func26, Try.ntmps26
    go_wp2_with (go_at_call 57; (first | (with_reducible refine (K1.out _).mono ?_) | (with_reducible refine (K2.out _).mono ?_) | (with_reducible refine (K3.out _).mono ?_) | (with_reducible refine (K4.out _).mono ?_)); rintro e w1 ⟨rfl, rfl⟩)
    go_ret
    exact ⟨rfl, (Ext.refl _).alloc _⟩
  cases g5 : btw m9 0 4294967295
  · clear h
    have K1 : Hid (∀ w1, Calls Try.prog 57 #[.int .i64 m1, .int .i64 0, .int .i64 999] w1 fun e w' => e = .returned (.bool true) ∧ w1 = w') := Lib.hid (fun w1 => by have h0 := between12_any m1 0 999 w1; rw [g1] at h0; exact h0)
    have K2 : Hid (∀ w1, Calls Try.prog 57 #[.int .i64 m2, .int .i64 1, .int .i64 65535] w1 fun e w' => e = .returned (.bool true) ∧ w1 = w') := Lib.hid (fun w1 => by have h0 := between12_any m2 1 65535 w1; rw [g2] at h0; exact h0)
    have K3 : Hid (∀ w1, Calls Try.prog 57 #[.int .i64 m6, .int .i64 1, .int .i64 4294967295] w1 fun e w' => e = .returned (.bool true) ∧ w1 = w') := Lib.hid (fun w1 => by have h0 := between12_any m6 1 4294967295 w1; rw [g3] at h0; exact h0)
    have K4 : Hid (∀ w1, Calls Try.prog 57 #[.int .i64 m7, .int .i64 0, .int .i64 4294967295] w1 fun e w' => e = .returned (.bool true) ∧ w1 = w') := Lib.hid (fun w1 => by have h0 := between12_any m7 0 4294967295 w1; rw [g4] at h0; exact h0)
    have K5 : Hid (∀ w1, Calls Try.prog 57 #[.int .i64 m9, .int .i64 0, .int .i64 4294967295] w1 fun e w' => e = .returned (.bool false) ∧ w1 = w') := Lib.hid (fun w1 => by have h0 := between12_any m9 0 4294967295 w1; rw [g5] at h0; exact h0)
    clear g1 g2 g3 g4 g5
    go_enter Try.func26, Try.ntmps26
    go_wp2_with (go_at_call 57; (first | (with_reducible refine (K1.out _).mono ?_) | (with_reducible refine (K2.out _).mono ?_) | (with_reducible refine (K3.out _).mono ?_) | (with_reducible refine (K4.out _).mono ?_) | (with_reducible refine (K5.out _).mono ?_)); rintro e w1 ⟨rfl, rfl⟩)
    go_ret
    exact ⟨rfl, (Ext.refl _).alloc _⟩
  exact absurd ⟨g1, g2, g3, g4, g5⟩ h
set_option maxRecDepth 100000 in
set_option maxHeartbeats 4000000 in
theorem checkMR_yes (m : Msg) (v : Value) (w : World) (hv : RF Any 6 valE w v m.vals) (h : numOk m) : Calls Try.prog 26 #[msgA m v] w fun e w' => e = .returned (.int .i64 (chkM m)) ∧ Ext w w' := by
  rw [chkM_yes m h]
  rw [numOk_iff] at h
  obtain ⟨a, c, rfl, hc1, hc2⟩ := hv.form
  have H0 := Lib.hid (fun w1 => checkVR_any ⟨5, 0, ⟨#[]⟩, m.sec, m.frac, m.qual⟩ w1)
  rw [chk_time] at H0
  obtain ⟨m1, m2, m3, m4, m5, m6, m7, m8, m9, l⟩ := m
  obtain ⟨g1, g2, g3, g4, g5⟩ := h
  simp only at *
  have K1 : Hid (∀ w1, Calls Try.prog 57 #[.int .i64 m1, .int .i64 0, .int .i64 999] w1 fun e w' => e = .returned (.bool true) ∧ w1 = w') := Lib.hid (fun w1 => by have h0 := between12_any m1 0 999 w1; rw [g1] at h0; exact h0)
  have K2 : Hid (∀ w1, Calls Try.prog 57 #[.int .i64 m2, .int .i64 1, .int .i64 65535] w1 fun e w' => e = .returned (.bool true) ∧ w1 = w') := Lib.hid (fun w1 => by have h0 := between12_any m2 1 65535 w1; rw [g2] at h0; exact h0)
  have K3 : Hid (∀ w1, Calls Try.prog 57 #[.int .i64 m6, .int .i64 1, .int .i64 4294967295] w1 fun e w' => e = .returned (.bool true) ∧ w1 = w') := Lib.hid (fun w1 => by have h0 := between12_any m6 1 4294967295 w1; rw [g3] at h0; exact h0)
  have K4 : Hid (∀ w1, Calls Try.prog 57 #[.int .i64 m7, .int .i64 0, .int .i64 4294967295] w1 fun e w' => e = .returned (.bool true) ∧ w1 = w') := Lib.hid (fun w1 => by have h0 := between12_any m7 0 4294967295 w1; rw [g4] at h0; exact h0)
  have K5 : Hid (∀ w1, Calls Try.prog 57 #[.int .i64 m9, .int .i64 0, .int .i64 4294967295] w1 fun e w' => e = .returned (.bool true) ∧ w1 = w') := Lib.hid (fun w1 => by have h0 := between12_any m9 0 4294967295 w1; rw [g5] at h0; exact h0)
  clear g1 g2 g3 g4 g5
  generalize stErr m3 m4 m5 = se at *
  by_cases hse : se = 0
  · subst hse
    rw [if_neg (by simp)]
    have HV := Lib.hid hv
    by_cases hl : 24 < l.length
    · rw [if_pos hl]
      have hl' : (24 : Int) < l.length := by omega
      generalize l.length = n at *
      clear hv
      go_enter Try.func26, Try.ntmps26
      go_wp2_with (go_at_call 57; (first | (with_reducible refine (K1.out _).mono ?_) | (with_reducible refine (K2.out _).mono ?_) | (with_reducible refine (K3.out _).mono ?_) | (with_reducible refine (K4.out _).mono ?_) | (with_reducible refine (K5.out _).mono ?_)); rintro e w1 ⟨rfl, rfl⟩)
      clear K1 K2 K3 K4 K5
      refine (H0.out _).mono ?_
      rintro e w1 ⟨rfl, x1⟩
      have g9 := x1.cell (cell_at w #[.int .i64 m1, .int .i64 m2, .int .i64 m3, .int .i64 m4, .int .i64 m5, .int .i64 m6, .int .i64 m7, .bool m8, .int .i64 m9, .slice a n c] 58 _ 9 _ rfl rfl)
      have X1 := ((Ext.refl _).alloc _).trans x1
      clear x1
      go_wp2_with fail
      go_ret
      exact ⟨rfl, X1⟩
    · rw [if_neg hl]
      have HF := Lib.hid (vErr_found l)
      have HN := Lib.hid (vErr_none l)
      have hl' : ¬ (24 : Int) < l.length := by omega
      have hl2 : l.length ≤ 24 := by omega
      generalize vErr l = r at *
      generalize hn : l.length = n at *
      have HNN := Lib.hid hn
      clear hv hn hl hc1 hc2
      go_enter Try.func26, Try.ntmps26
      go_wp2_with (go_at_call 57; (first | (with_reducible refine (K1.out _).mono ?_) | (with_reducible refine (K2.out _).mono ?_) | (with_reducible refine (K3.out _).mono ?_) | (with_reducible refine (K4.out _).mono ?_) | (with_reducible refine (K5.out _).mono ?_)); rintro e w1 ⟨rfl, rfl⟩)
      clear K1 K2 K3 K4 K5
      refine (H0.out _).mono ?_
      rintro e w1 ⟨rfl, x1⟩
      have g9 := x1.cell (cell_at w #[.int .i64 m1, .int .i64 m2, .int .i64 m3, .int .i64 m4, .int .i64 m5, .int .i64 m6, .int .i64 m7, .bool m8, .int .i64 m9, .slice a n c] 58 _ 9 _ rfl rfl)
      have X1 := ((Ext.refl _).alloc _).trans x1
      clear x1
      have G9 := Lib.hid (fun wr (he : Ext w1 wr) => he.cell g9)
      go_wp2_with fail
      clear g9
      go_loopw [3, 4] (fun _ i wr => ∃ (k : Nat), k ≤ n ∧ i = .int .i64 k ∧ (∀ (i : Nat) y, l[i]? = some y → i < k → chk y = 0) ∧ Ext w1 wr) (fun _ i _ => n - (intOf i).toNat)
      case atStart => exact ⟨0, Nat.zero_le _, rfl, fun i _ _ h => by omega, Ext.refl _⟩
      case round =>
        obtain ⟨k, hk1, rfl, hall, hx⟩ := hrel
        have g9 := G9.out _ hx
        have HALL := Lib.hid hall
        have HX := Lib.hid hx
        clear hall
        by_cases hlt : k < n
        · obtain ⟨x, hxk⟩ : ∃ x, l[k]? = some x := ⟨_, List.getElem?_eq_getElem (by rw [HNN.out]; exact hlt)⟩
          obtain ⟨b1, o1, c1, hv1, f0, f1, f2, f3, f4, f5⟩ := val_get (HV.out.ext (X1.trans hx)) hxk
          rw [HNN.out] at hv1
          simp only [Value.slice.injEq] at hv1
          obtain ⟨rfl, -, rfl⟩ := hv1
          have HC := Lib.hid (fun w1 => checkVR_any x w1)
          obtain ⟨q, hq⟩ : ∃ q, chk x = q := ⟨_, rfl⟩
          rw [hq] at HC
          have HQ := Lib.hid hq
          have HXK := Lib.hid hxk
          have hki : (k : Int) < n := by omega
          clear hq hxk hx
          obtain ⟨x1, x2, x3, x4, x5, x6⟩ := x
          simp only at *
          by_cases hq0 : q = 0
          · subst hq0
            go_wp2_with (go_at_call 58; (with_reducible refine (HC.out _).mono ?_); rintro e w2 ⟨rfl, y2⟩)
            go_roundw
            case rel => exact ⟨k + 1, by omega, by go_num, fun i y h1 hi => by
              rcases Nat.lt_or_ge i k with h | h
              · exact HALL.out i y h1 h
              · have hik : i = k := by omega
                subst hik
                have e1 := HXK.out
                rw [h1] at e1
                injection e1 with e1
                rw [e1]
                exact HQ.out, HX.out.trans y2⟩
            case measure => simp [intOf]; omega
          · have hq1 : (q != 0) = true := by simpa using hq0
            have HQ0 := Lib.hid hq0
            clear hq0
            go_wp2_with (go_at_call 58; (with_reducible refine (HC.out _).mono ?_); rintro e w2 ⟨rfl, y2⟩)
            go_ret
            refine ⟨ret_int ?_, X1.trans (HX.out.trans y2)⟩
            have := HF.out k _ HXK.out (by rw [HQ.out]; exact HQ0.out) HALL.out
            rw [this, HQ.out]
        · have hki : ¬ (k : Int) < n := by omega
          clear hx
          go_wp2_with fail
          go_ret
          refine ⟨ret_int ?_, X1.trans HX.out⟩
          exact (HN.out fun i y h1 => HALL.out i y h1 (by have := get_lt h1; rw [HNN.out] at this; omega)).symm
  · rw [if_pos hse]
    have hse1 : (se != 0) = true := by simpa using hse
    clear hse
    generalize l.length = n at *
    clear hv
    go_enter Try.func26, Try.ntmps26
    go_wp2_with (go_at_call 57; (first | (with_reducible refine (K1.out _).mono ?_) | (with_reducible refine (K2.out _).mono ?_) | (with_reducible refine (K3.out _).mono ?_) | (with_reducible refine (K4.out _).mono ?_) | (with_reducible refine (K5.out _).mono ?_)); rintro e w1 ⟨rfl, rfl⟩)
    clear K1 K2 K3 K4 K5
    refine (H0.out _).mono ?_
    rintro e w1 ⟨rfl, x1⟩
    have g9 := x1.cell (cell_at w #[.int .i64 m1, .int .i64 m2, .int .i64 m3, .int .i64 m4, .int .i64 m5, .int .i64 m6, .int .i64 m7, .bool m8, .int .i64 m9, .slice a n c] 58 _ 9 _ rfl rfl)
    have X1 := ((Ext.refl _).alloc _).trans x1
    clear x1
    go_wp2_with fail
    go_ret
    exact ⟨rfl, X1⟩
theorem checkMR_any (m : Msg) (v : Value) (w : World) (hv : RF Any 6 valE w v m.vals) : Calls Try.prog 26 #[msgA m v] w fun e w' => e = .returned (.int .i64 (chkM m)) ∧ Ext w w' := by
  by_cases h : numOk m
  · exact checkMR_yes m v w hv h
  · rw [chkM_no m h]
    exact checkMR_no m v w h
/-- Two messages alike. -/
def sameM (a b : Msg) : Bool := decide (a = b)
theorem sameM_no {a b : Msg} (h : a.pub ≠ b.pub ∨ a.ttl ≠ b.ttl ∨ ¬ (a.sec = b.sec ∧ a.frac = b.frac ∧ a.qual = b.qual) ∨ a.state ≠ b.state ∨ a.seq ≠ b.seq ∨ a.test ≠ b.test ∨ a.rev ≠ b.rev) : sameM a b = false := by
  unfold sameM
  simp only [decide_eq_false_iff_not]
  intro e
  subst e
  simp at h
theorem eql_stampM (a b c a' b' c' : Int) (w : World) : (binOp .eql 25 (.agg #[.int .i64 a, .int .i64 b, .int .i64 c]) (.agg #[.int .i64 a', .int .i64 b', .int .i64 c'])).run Try.prog w = .ok (.bool (decide (a = a' ∧ b = b' ∧ c = c'))) w := by
  rw [run_eql_struct, show (10000 : Nat) = 9998 + 1 + 1 from rfl, equal_stamp]
  rfl
theorem eql_rstampM (a b c a' b' c' : Int) (w : World) : (binOp .eql 55 (.agg #[.int .i64 a, .int .i64 b, .int .i64 c]) (.agg #[.int .i64 a', .int .i64 b', .int .i64 c'])).run Try.prog w = .ok (.bool (decide (a = a' ∧ b = b' ∧ c = c'))) w := by
  rw [run_eql_struct, show (10000 : Nat) = 9998 + 1 + 1 from rfl, equal_rstamp]
  rfl
end Go.Proofs.Ytopmhaebjpmbfaa
