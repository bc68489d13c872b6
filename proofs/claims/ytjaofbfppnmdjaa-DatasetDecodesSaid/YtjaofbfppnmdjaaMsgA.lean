/- Check of messages: layer 12. -/
import Derived.Test.YtjaofbfppnmdjaaPubP
import Derived.Test.YtjaofbfppnmdjaaValC
namespace Go.Proofs.Ytjaofbfppnmdjaa
open Go.RowKit
attribute [local go_sem ↓] Go.wp_at_zero Go.wp_at_succ

abbrev msgA (m : Msg) (v : Value) : Value := .agg #[.int .i64 m.pub, .int .i64 m.ttl, .int .i64 m.sec, .int .i64 m.frac, .int .i64 m.qual, .int .i64 m.state, .int .i64 m.seq, .bool m.test, .int .i64 m.rev, v]
theorem vErr_found : ∀ (l : List Val) (k : Nat) (x : Val), l[k]? = some x → chk x ≠ 0 → (∀ (i : Nat) y, l[i]? = some y → i < k → chk y = 0) → vErr l = chk x
  | [], _, _, h, _, _ => by simp at h
  | y :: l, 0, x, h, h1, _ => by
    simp only [List.getElem?_cons_zero, Option.some.injEq] at h
    subst h
    simp only [vErr, if_neg h1]
  | y :: l, k + 1, x, h, h1, h2 => by
    have h0 : chk y = 0 := h2 0 y rfl (by omega)
    simp only [vErr, if_pos h0]
    exact vErr_found l k x (by simpa using h) h1 (fun i z hz hi => h2 (i + 1) z (by simpa using hz) (by omega))
theorem vErr_none : ∀ (l : List Val), (∀ (i : Nat) y, l[i]? = some y → chk y = 0) → vErr l = 0
  | [], _ => rfl
  | y :: l, h => by
    simp only [vErr, if_pos (h 0 y rfl)]
    exact vErr_none l fun i z hz => h (i + 1) z (by simpa using hz)
theorem chk_time (a b c : Int) : chk ⟨5, 0, ⟨#[]⟩, a, b, c⟩ = stErr a b c := by
  unfold chk noN noS
  simp [ByteArray.toList_eq]
def numOk (m : Msg) : Prop := 0 ≤ m.pub ∧ m.pub ≤ 999 ∧ 1 ≤ m.ttl ∧ m.ttl ≤ 65535 ∧ 1 ≤ m.state ∧ m.state ≤ 4294967295 ∧ 0 ≤ m.seq ∧ m.seq ≤ 4294967295 ∧ 0 ≤ m.rev ∧ m.rev ≤ 4294967295
theorem chkM_no (m : Msg) (h : ¬ numOk m) : chkM m = 2 := by
  unfold numOk at h
  unfold chkM
  by_cases h1 : m.pub < 0 ∨ 999 < m.pub ∨ m.ttl < 1 ∨ 65535 < m.ttl
  · rw [if_pos h1]
  · rw [if_neg h1, if_pos (by omega)]
theorem chkM_yes (m : Msg) (h : numOk m) : chkM m = if stErr m.sec m.frac m.qual ≠ 0 then stErr m.sec m.frac m.qual else if 24 < m.vals.length then 3 else vErr m.vals := by
  unfold numOk at h
  unfold chkM
  rw [if_neg (by omega), if_neg (by omega)]

theorem num_ways {a b c d e : Int} (h : ¬ (0 ≤ a ∧ a ≤ 999 ∧ 1 ≤ b ∧ b ≤ 65535 ∧ 1 ≤ c ∧ c ≤ 4294967295 ∧ 0 ≤ d ∧ d ≤ 4294967295 ∧ 0 ≤ e ∧ e ≤ 4294967295)) :
    (a < 0) ∨ (0 ≤ a ∧ 999 < a) ∨ (0 ≤ a ∧ a ≤ 999 ∧ b < 1) ∨ (0 ≤ a ∧ a ≤ 999 ∧ 1 ≤ b ∧ 65535 < b) ∨ (0 ≤ a ∧ a ≤ 999 ∧ 1 ≤ b ∧ b ≤ 65535 ∧ c < 1) ∨ (0 ≤ a ∧ a ≤ 999 ∧ 1 ≤ b ∧ b ≤ 65535 ∧ 1 ≤ c ∧ 4294967295 < c)
    ∨ (0 ≤ a ∧ a ≤ 999 ∧ 1 ≤ b ∧ b ≤ 65535 ∧ 1 ≤ c ∧ c ≤ 4294967295 ∧ d < 0) ∨ (0 ≤ a ∧ a ≤ 999 ∧ 1 ≤ b ∧ b ≤ 65535 ∧ 1 ≤ c ∧ c ≤ 4294967295 ∧ 0 ≤ d ∧ 4294967295 < d)
    ∨ (0 ≤ a ∧ a ≤ 999 ∧ 1 ≤ b ∧ b ≤ 65535 ∧ 1 ≤ c ∧ c ≤ 4294967295 ∧ 0 ≤ d ∧ d ≤ 4294967295 ∧ e < 0) ∨ (0 ≤ a ∧ a ≤ 999 ∧ 1 ≤ b ∧ b ≤ 65535 ∧ 1 ≤ c ∧ c ≤ 4294967295 ∧ 0 ≤ d ∧ d ≤ 4294967295 ∧ 0 ≤ e ∧ 4294967295 < e) := by
  by_cases c1 : a < 0
  · exact .inl c1
  replace c1 : 0 ≤ a := by omega
  right
  by_cases c2 : 999 < a
  · exact .inl ⟨c1, c2⟩
  replace c2 : a ≤ 999 := by omega
  right
  by_cases c3 : b < 1
  · exact .inl ⟨c1, c2, c3⟩
  replace c3 : 1 ≤ b := by omega
  right
  by_cases c4 : 65535 < b
  · exact .inl ⟨c1, c2, c3, c4⟩
  replace c4 : b ≤ 65535 := by omega
  right
  by_cases c5 : c < 1
  · exact .inl ⟨c1, c2, c3, c4, c5⟩
  replace c5 : 1 ≤ c := by omega
  right
  by_cases c6 : 4294967295 < c
  · exact .inl ⟨c1, c2, c3, c4, c5, c6⟩
  replace c6 : c ≤ 4294967295 := by omega
  right
  by_cases c7 : d < 0
  · exact .inl ⟨c1, c2, c3, c4, c5, c6, c7⟩
  replace c7 : 0 ≤ d := by omega
  right
  by_cases c8 : 4294967295 < d
  · exact .inl ⟨c1, c2, c3, c4, c5, c6, c7, c8⟩
  replace c8 : d ≤ 4294967295 := by omega
  right
  by_cases c9 : e < 0
  · exact .inl ⟨c1, c2, c3, c4, c5, c6, c7, c8, c9⟩
  replace c9 : 0 ≤ e := by omega
  right
  exact ⟨c1, c2, c3, c4, c5, c6, c7, c8, c9, by
    by_cases c10 : e ≤ 4294967295
    · exact absurd ⟨c1, c2, c3, c4, c5, c6, c7, c8, c9, c10⟩ h
    · omega⟩
set_option maxRecDepth 100000 in
set_option maxHeartbeats 4000000 in
theorem checkM_no (m : Msg) (v : Value) (w : World) (h : ¬ numOk m) : Calls Try.prog 40 #[msgA m v] w fun e w' => e = .returned (.int .i64 2) ∧ Ext w w' := by
  obtain ⟨m1, m2, m3, m4, m5, m6, m7, m8, m9, m10⟩ := m
  rcases num_ways h with h1 | ⟨h1, h2⟩ | ⟨h1, h2, h3⟩ | ⟨h1, h2, h3, h4⟩ | ⟨h1, h2, h3, h4, h5⟩ | ⟨h1, h2, h3, h4, h5, h6⟩ | ⟨h1, h2, h3, h4, h5, h6, h7⟩ | ⟨h1, h2, h3, h4, h5, h6, h7, h8⟩ | ⟨h1, h2, h3, h4, h5, h6, h7, h8, h9⟩ | ⟨h1, h2, h3, h4, h5, h6, h7, h8, h9, h10⟩
  all_goals
    clear h
    simp only at *
    go_enter Try.func40, Try.ntmps40
    go_wp2_with fail
    go_ret
    exact ⟨rfl, (Ext.refl _).alloc _⟩
set_option maxRecDepth 100000 in
set_option maxHeartbeats 4000000 in
theorem checkM_yes (m : Msg) (v : Value) (w : World) (hv : RF Any 6 valE w v m.vals) (h : numOk m) : Calls Try.prog 40 #[msgA m v] w fun e w' => e = .returned (.int .i64 (chkM m)) ∧ Ext w w' := by
  rw [chkM_yes m h]
  obtain ⟨a, c, rfl, hc1, hc2⟩ := hv.form
  have H0 := Lib.hid (fun w1 => checkV_any ⟨5, 0, ⟨#[]⟩, m.sec, m.frac, m.qual⟩ w1)
  rw [chk_time] at H0
  obtain ⟨m1, m2, m3, m4, m5, m6, m7, m8, m9, l⟩ := m
  obtain ⟨h1, h2, h3, h4, h5, h6, h7, h8, h9, h10⟩ := h
  simp only at *
  generalize stErr m3 m4 m5 = se at *
  by_cases hse : se = 0
  · subst hse
    rw [if_neg (by simp)]
    have HV := Lib.hid hv
    by_cases hl : 24 < l.length
    · rw [if_pos hl]
      have hl' : (24 : Int) < l.length := by omega
      generalize l.length = n at *
      clear hv
      go_enter Try.func40, Try.ntmps40
      go_wp2_with fail
      refine (H0.out _).mono ?_
      rintro e w1 ⟨rfl, x1⟩
      have g9 := x1.cell (cell_at w #[.int .i64 m1, .int .i64 m2, .int .i64 m3, .int .i64 m4, .int .i64 m5, .int .i64 m6, .int .i64 m7, .bool m8, .int .i64 m9, .slice a n c] 71 _ 9 _ rfl rfl)
      go_wp2_with fail
      go_ret
      exact ⟨rfl, ((Ext.refl _).alloc _).trans x1⟩
    · rw [if_neg hl]
      have HF := Lib.hid (vErr_found l)
      have HN := Lib.hid (vErr_none l)
      have hl' : ¬ (24 : Int) < l.length := by omega
      have hl2 : l.length ≤ 24 := by omega
      generalize vErr l = r at *
      generalize hn : l.length = n at *
      have HNN := Lib.hid hn
      clear hv hn hl hc1 hc2
      go_enter Try.func40, Try.ntmps40
      go_wp2_with fail
      refine (H0.out _).mono ?_
      rintro e w1 ⟨rfl, x1⟩
      have g9 := x1.cell (cell_at w #[.int .i64 m1, .int .i64 m2, .int .i64 m3, .int .i64 m4, .int .i64 m5, .int .i64 m6, .int .i64 m7, .bool m8, .int .i64 m9, .slice a n c] 71 _ 9 _ rfl rfl)
      have X1 := ((Ext.refl _).alloc _).trans x1
      clear x1
      go_wp2_with fail
      have G9 := Lib.hid g9
      clear g9
      go_loopw [5, 6, 67] (fun _ _ i wr => ∃ (k : Nat), k ≤ n ∧ i = .int .i64 k ∧ (∀ (i : Nat) y, l[i]? = some y → i < k → chk y = 0) ∧ Ext w wr) (fun _ _ i _ => n - (intOf i).toNat)
      case atStart => exact ⟨0, Nat.zero_le _, rfl, fun i _ _ h => by omega, X1⟩
      case round =>
        obtain ⟨k, hk1, rfl, hall, hx⟩ := hrel
        have HALL := Lib.hid hall
        clear hall X1
        by_cases hlt : k < n
        · obtain ⟨x, hxk⟩ : ∃ x, l[k]? = some x := ⟨_, List.getElem?_eq_getElem (by rw [HNN.out]; exact hlt)⟩
          obtain ⟨b1, o1, c1, hv1, g0, g1, g2, g3, g4, g5⟩ := val_get (HV.out.ext hx) hxk
          rw [HNN.out] at hv1
          simp only [Value.slice.injEq] at hv1
          obtain ⟨rfl, -, rfl⟩ := hv1
          have HC := Lib.hid (fun w1 => checkV_any x w1)
          obtain ⟨q, hq⟩ : ∃ q, chk x = q := ⟨_, rfl⟩
          rw [hq] at HC
          have HQ := Lib.hid hq
          have HXK := Lib.hid hxk
          have hki : (k : Int) < n := by omega
          clear hq hxk
          obtain ⟨x1, x2, x3, x4, x5, x6⟩ := x
          simp only at *
          by_cases hq0 : q = 0
          · subst hq0
            go_wp2_with (go_at_call 24; (with_reducible refine (HC.out _).mono ?_); rintro e w2 ⟨rfl, x2⟩)
            go_roundw
            case rel => exact ⟨k + 1, by omega, by go_num, fun i y h1 hi => by
              rcases Nat.lt_or_ge i k with h | h
              · exact HALL.out i y h1 h
              · have hik : i = k := by omega
                subst hik
                have e1 := HXK.out
                rw [h1] at e1
                injection e1 with e1
                rw [e1]
                exact HQ.out, (hx.alloc _).trans x2⟩
            case measure => simp [intOf]; omega
          · have hq1 : (q != 0) = true := by simpa using hq0
            have HQ0 := Lib.hid hq0
            clear hq0
            go_wp2_with (go_at_call 24; (with_reducible refine (HC.out _).mono ?_); rintro e w2 ⟨rfl, x2⟩)
            go_ret
            refine ⟨ret_int ?_, (hx.alloc _).trans x2⟩
            have := HF.out k _ HXK.out (by rw [HQ.out]; exact HQ0.out) HALL.out
            rw [this, HQ.out]
        · go_wp2_with fail
          go_ret
          refine ⟨ret_int ?_, hx⟩
          exact (HN.out fun i y h1 => HALL.out i y h1 (by have := get_lt h1; rw [HNN.out] at this; omega)).symm
  · rw [if_pos hse]
    have hse1 : (se != 0) = true := by simpa using hse
    clear hse
    generalize l.length = n at *
    clear hv
    go_enter Try.func40, Try.ntmps40
    go_wp2_with fail
    refine (H0.out _).mono ?_
    rintro e w1 ⟨rfl, x1⟩
    go_wp2_with fail
    go_ret
    exact ⟨rfl, ((Ext.refl _).alloc _).trans x1⟩
theorem checkM_any (m : Msg) (v : Value) (w : World) (hv : RF Any 6 valE w v m.vals) : Calls Try.prog 40 #[msgA m v] w fun e w' => e = .returned (.int .i64 (chkM m)) ∧ Ext w w' := by
  by_cases h : numOk m
  · exact checkM_yes m v w hv h
  · rw [chkM_no m h]
    exact checkM_no m v w h
end Go.Proofs.Ytjaofbfppnmdjaa
