/- Same and Check of the reference: layer 11. -/
import Derived.Test.YtjaofbfppnmdjaaDatR
namespace Go.Proofs.Ytjaofbfppnmdjaa
open Go.RowKit
attribute [local go_sem ↓] Go.wp_at_zero Go.wp_at_succ

set_option maxRecDepth 100000 in
set_option maxHeartbeats 1000000 in
theorem sameVR_any (a b : List Val) (va vb : Value) (w : World) (ha : RF Any 6 valE w va a) (hb : RF Any 6 valE w vb b) :
    Calls Try.prog 28 #[va, vb] w fun e w' => e = .returned (.bool (decide (a = b))) ∧ Ext w w' := by
  obtain ⟨aa, ac, rfl, hc1, hc2⟩ := ha.form
  obtain ⟨ba, bc, rfl, hd1, hd2⟩ := hb.form
  by_cases hl : a.length = b.length
  · have HA := Lib.hid ha
    have HB := Lib.hid hb
    have HE := Lib.hid (list_eq_of a b hl)
    have HN := Lib.hid (list_ne_at a b)
    have HL := Lib.hid hl
    clear ha hb hd1 hd2
    obtain ⟨r, hr⟩ : ∃ r, decide (a = b) = r := ⟨_, rfl⟩
    rw [hr]
    have HR := Lib.hid hr
    clear hr
    rw [← hl]
    generalize hn : a.length = n at *
    have HNN := Lib.hid hn
    unfold maxLen at hc2
    clear hn hl
    go_enter Try.func28, Try.ntmps28
    go_wp2
    go_loopw [5] (fun i wr => ∃ (k : Nat), k ≤ n ∧ i = .int .i64 k ∧ (∀ (i : Nat) x y, a[i]? = some x → b[i]? = some y → i < k → x = y) ∧ Ext w wr) (fun i _ => n - (intOf i).toNat)
    case atStart => exact ⟨0, Nat.zero_le _, rfl, fun i _ _ _ _ h => by omega, Ext.refl _⟩
    case round =>
      obtain ⟨k, hk1, rfl, hall, hx⟩ := hrel
      have HALL := Lib.hid hall
      clear hall
      by_cases hlt : k < n
      · obtain ⟨x, hxk⟩ : ∃ x, a[k]? = some x := ⟨_, List.getElem?_eq_getElem (by rw [HNN.out]; exact hlt)⟩
        obtain ⟨y, hyk⟩ : ∃ y, b[k]? = some y := ⟨_, List.getElem?_eq_getElem (by rw [← HL.out]; exact hlt)⟩
        obtain ⟨b1, o1, c1, hv1, g0, g1, g2, g3, g4, g5⟩ := val_get (HA.out.ext hx) hxk
        obtain ⟨b2, o2, c2, hv2, f0, f1, f2, f3, f4, f5⟩ := val_get (HB.out.ext hx) hyk
        rw [HNN.out] at hv1
        rw [← HL.out] at hv2
        simp only [Value.slice.injEq] at hv1 hv2
        obtain ⟨rfl, -, rfl⟩ := hv1
        obtain ⟨rfl, -, rfl⟩ := hv2
        have hne := fun w1 => neq_rval x y w1
        obtain ⟨r, hr'⟩ : ∃ r, decide (x = y) = r := ⟨_, rfl⟩
        rw [hr'] at hne
        have HQ := Lib.hid hr'
        have HXK := Lib.hid hxk
        have HYK := Lib.hid hyk
        clear hr' hxk hyk
        obtain ⟨x1, x2, x3, x4, x5, x6⟩ := x
        obtain ⟨y1, y2, y3, y4, y5, y6⟩ := y
        simp only at *
        have hki : (k : Int) < n := by omega
        cases r
        · go_wp2
          go_quiet (fail)
          go_wp2
          go_ret
          refine ⟨ret_bool ?_, hx.drewN _⟩
          rw [← HR.out]
          exact (decide_eq_false (HN.out k _ _ HXK.out HYK.out (of_decide_eq_false HQ.out))).symm
        · go_wp2
          go_quiet (fail)
          go_wp2
          go_roundw
          case rel => exact ⟨k + 1, by omega, by go_num, fun i x y h1 h2 hi => by
            rcases Nat.lt_or_ge i k with h | h
            · exact HALL.out i x y h1 h2 h
            · have hik : i = k := by omega
              subst hik
              have e1 := HXK.out
              have e2 := HYK.out
              rw [h1] at e1
              rw [h2] at e2
              injection e1 with e1
              injection e2 with e2
              rw [e1, e2]
              exact of_decide_eq_true HQ.out, hx.drewN _⟩
          case measure => simp [intOf]; omega
      · go_wp2
        go_ret
        refine ⟨ret_bool ?_, hx⟩
        rw [← HR.out]
        exact (decide_eq_true (HE.out fun i x y h1 h2 => HALL.out i x y h1 h2 (by have := (List.getElem?_eq_some_iff.1 h1).1; rw [HNN.out] at this; omega))).symm
  · have hl1 : ((a.length : Int) != (b.length : Int)) = true := by simp only [bne_iff_ne, ne_eq]; omega
    have hl2 : ((a.length : Int) == (b.length : Int)) = false := by simp only [beq_eq_false_iff_ne, ne_eq]; omega
    have hz : decide (a = b) = false := by simp only [decide_eq_false_iff_not]; intro h; exact hl (by rw [h])
    rw [hz]
    clear hz
    generalize a.length = n at *
    generalize b.length = m at *
    go_enter Try.func28, Try.ntmps28
    go_wp2
    go_ret
    exact ⟨rfl, Ext.refl _⟩
theorem btw_zero : btw 0 0 4294967295 = true ∧ btw 0 0 16777215 = true ∧ btw 0 0 255 = true := by decide
theorem stErr_btw (a b c : Int) : stErr a b c = if (btw a 0 4294967295 && btw b 0 16777215 && btw c 0 255) = true then 0 else 2 := by
  unfold stErr btw
  simp only [Bool.and_eq_true, decide_eq_true_eq]
  split <;> split <;> first | rfl | omega
set_option maxRecDepth 100000 in
set_option maxHeartbeats 8000000 in
theorem checkVR_1 (k n : Int) (s : ByteArray) (a b c : Int) (w : World) (h : k = 1) : Calls Try.prog 25 #[valA ⟨k, n, s, a, b, c⟩] w fun e w' => e = .returned (.int .i64 (chk ⟨k, n, s, a, b, c⟩)) ∧ Ext w w' := by
  subst h
  have hbt : btw 1 1 5 = true := rfl
  by_cases hS : s = ⟨#[]⟩
  · subst hS
    by_cases hT : a = 0 ∧ b = 0 ∧ c = 0
    · obtain ⟨ha, hb, hc⟩ := hT
      subst ha hb hc
      have hnt := fun W => neq_rstamp 0 0 0 0 0 0 W
      rw [show decide ((0 : Int) = 0 ∧ (0 : Int) = 0 ∧ (0 : Int) = 0) = true from rfl] at hnt
      have z1 := btw_zero.1
      have z2 := btw_zero.2.1
      have z3 := btw_zero.2.2
      have hz : chk ⟨1, n, ⟨#[]⟩, 0, 0, 0⟩ = if btw n 0 1 = true then 0 else 2 := by
        have : (n = 0 ∨ n = 1) ↔ btw n 0 1 = true := by unfold btw; rw [Bool.and_eq_true, decide_eq_true_eq, decide_eq_true_eq]; omega
        unfold chk noS noT
        simp [ByteArray.toList_eq, this]
      rw [hz]
      clear hz
      cases hbn : btw n 0 1
      · rw [if_neg (by simp)]
        go_enter Try.func25, Try.ntmps25
        go_wp2_with fail
        have BV := Bk.new w #[.int .i64 1, .int .i64 n, .string ⟨#[]⟩, .int .i64 0, .int .i64 0, .int .i64 0] 54 w.heap.size rfl
        have X0 : Ext w (w.alloc (.cells #[.int .i64 1, .int .i64 n, .string ⟨#[]⟩, .int .i64 0, .int .i64 0, .int .i64 0] 54)) := (Ext.refl w).alloc _
        generalize w.alloc (.cells #[.int .i64 1, .int .i64 n, .string ⟨#[]⟩, .int .i64 0, .int .i64 0, .int .i64 0] 54) = W at *
        have q : ∀ j, W.cell? ⟨w.heap.size, j, none⟩ = (#[.int .i64 1, .int .i64 n, .string ⟨#[]⟩, .int .i64 0, .int .i64 0, .int .i64 0] : Array Value)[j]? := BV.cell
        clear BV
        refine (between_any _ _ _ _).mono ?_
        rintro e w1 ⟨rfl, rfl⟩
        rw [hbt]
        go_upto_region 3 with fail
        go_quiet (fail)
        have X1 : Ext w (W.drewN nq) := X0.drewN nq
        go_wp2_with (go_at_call 51; refine (between_any _ _ _ _).mono ?_; rintro e w3 ⟨rfl, rfl⟩)
        go_ret
        exact ⟨rfl, X1⟩
      · rw [if_pos rfl]
        go_enter Try.func25, Try.ntmps25
        go_wp2_with fail
        have BV := Bk.new w #[.int .i64 1, .int .i64 n, .string ⟨#[]⟩, .int .i64 0, .int .i64 0, .int .i64 0] 54 w.heap.size rfl
        have X0 : Ext w (w.alloc (.cells #[.int .i64 1, .int .i64 n, .string ⟨#[]⟩, .int .i64 0, .int .i64 0, .int .i64 0] 54)) := (Ext.refl w).alloc _
        generalize w.alloc (.cells #[.int .i64 1, .int .i64 n, .string ⟨#[]⟩, .int .i64 0, .int .i64 0, .int .i64 0] 54) = W at *
        have q : ∀ j, W.cell? ⟨w.heap.size, j, none⟩ = (#[.int .i64 1, .int .i64 n, .string ⟨#[]⟩, .int .i64 0, .int .i64 0, .int .i64 0] : Array Value)[j]? := BV.cell
        clear BV
        refine (between_any _ _ _ _).mono ?_
        rintro e w1 ⟨rfl, rfl⟩
        rw [hbt]
        go_upto_region 3 with fail
        go_quiet (fail)
        have X1 : Ext w (W.drewN nq) := X0.drewN nq
        go_wp2_with (go_at_call 51; refine (between_any _ _ _ _).mono ?_; rintro e w3 ⟨rfl, rfl⟩)
        go_loop [5] (fun i => i = .int .i64 0) (fun _ => 0)
        case atStart => rfl
        case round =>
          obtain rfl := hrel
          go_wp2_with fail
          go_ret
          exact ⟨rfl, X1⟩
    · have hz : chk ⟨1, n, ⟨#[]⟩, a, b, c⟩ = 12 := by
        unfold chk noS noT
        simp only [not_and] at hT
        simp [ByteArray.toList_eq]
        intro h1 h2 h3
        exact absurd h3 (hT h1 h2)
      rw [hz]
      clear hz
      have hnt := fun W => neq_rstamp a b c 0 0 0 W
      rw [decide_eq_false hT] at hnt
      clear hT
      go_enter Try.func25, Try.ntmps25
      go_wp2_with fail
      have BV := Bk.new w #[.int .i64 1, .int .i64 n, .string ⟨#[]⟩, .int .i64 a, .int .i64 b, .int .i64 c] 54 w.heap.size rfl
      have X0 : Ext w (w.alloc (.cells #[.int .i64 1, .int .i64 n, .string ⟨#[]⟩, .int .i64 a, .int .i64 b, .int .i64 c] 54)) := (Ext.refl w).alloc _
      generalize w.alloc (.cells #[.int .i64 1, .int .i64 n, .string ⟨#[]⟩, .int .i64 a, .int .i64 b, .int .i64 c] 54) = W at *
      have q : ∀ j, W.cell? ⟨w.heap.size, j, none⟩ = (#[.int .i64 1, .int .i64 n, .string ⟨#[]⟩, .int .i64 a, .int .i64 b, .int .i64 c] : Array Value)[j]? := BV.cell
      clear BV
      refine (between_any _ _ _ _).mono ?_
      rintro e w1 ⟨rfl, rfl⟩
      rw [hbt]
      go_upto_region 3 with fail
      go_quiet (fail)
      have X1 : Ext w (W.drewN nq) := X0.drewN nq
      go_wp2_with (go_at_call 51; refine (between_any _ _ _ _).mono ?_; rintro e w3 ⟨rfl, rfl⟩)
      go_ret
      exact ⟨rfl, X1⟩
  · have hse : s.toList.isEmpty = false := by
      cases h : s.toList.isEmpty
      · rfl
      · exact absurd (by rw [bytes_eq]; rw [List.isEmpty_iff] at h; rw [h, ByteArray.toList_eq]) hS
    have hz : chk ⟨1, n, s, a, b, c⟩ = 12 := by
      unfold chk noS
      simp [hse]
    rw [hz]
    clear hz hS
    go_enter Try.func25, Try.ntmps25
    go_wp2_with fail
    have BV := Bk.new w #[.int .i64 1, .int .i64 n, .string s, .int .i64 a, .int .i64 b, .int .i64 c] 54 w.heap.size rfl
    have X0 : Ext w (w.alloc (.cells #[.int .i64 1, .int .i64 n, .string s, .int .i64 a, .int .i64 b, .int .i64 c] 54)) := (Ext.refl w).alloc _
    generalize w.alloc (.cells #[.int .i64 1, .int .i64 n, .string s, .int .i64 a, .int .i64 b, .int .i64 c] 54) = W at *
    have q : ∀ j, W.cell? ⟨w.heap.size, j, none⟩ = (#[.int .i64 1, .int .i64 n, .string s, .int .i64 a, .int .i64 b, .int .i64 c] : Array Value)[j]? := BV.cell
    clear BV
    refine (between_any _ _ _ _).mono ?_
    rintro e w1 ⟨rfl, rfl⟩
    rw [hbt]
    go_upto_region 3 with fail
    go_quiet (fail)
    have X1 : Ext w (W.drewN nq) := X0.drewN nq
    go_wp2_with (go_at_call 51; refine (between_any _ _ _ _).mono ?_; rintro e w3 ⟨rfl, rfl⟩)
    go_ret
    exact ⟨rfl, X1⟩

set_option maxRecDepth 100000 in
set_option maxHeartbeats 8000000 in
theorem checkVR_2 (k n : Int) (s : ByteArray) (a b c : Int) (w : World) (h : k = 2) : Calls Try.prog 25 #[valA ⟨k, n, s, a, b, c⟩] w fun e w' => e = .returned (.int .i64 (chk ⟨k, n, s, a, b, c⟩)) ∧ Ext w w' := by
  subst h
  have hbt : btw 2 1 5 = true := rfl
  by_cases hS : s = ⟨#[]⟩
  · subst hS
    by_cases hT : a = 0 ∧ b = 0 ∧ c = 0
    · obtain ⟨ha, hb, hc⟩ := hT
      subst ha hb hc
      have hnt := fun W => neq_rstamp 0 0 0 0 0 0 W
      rw [show decide ((0 : Int) = 0 ∧ (0 : Int) = 0 ∧ (0 : Int) = 0) = true from rfl] at hnt
      have z1 := btw_zero.1
      have z2 := btw_zero.2.1
      have z3 := btw_zero.2.2
      have hz : chk ⟨2, n, ⟨#[]⟩, 0, 0, 0⟩ = 0 := by
        unfold chk noS noT
        simp [ByteArray.toList_eq]
      rw [hz]
      clear hz
      go_enter Try.func25, Try.ntmps25
      go_wp2_with fail
      have BV := Bk.new w #[.int .i64 2, .int .i64 n, .string ⟨#[]⟩, .int .i64 0, .int .i64 0, .int .i64 0] 54 w.heap.size rfl
      have X0 : Ext w (w.alloc (.cells #[.int .i64 2, .int .i64 n, .string ⟨#[]⟩, .int .i64 0, .int .i64 0, .int .i64 0] 54)) := (Ext.refl w).alloc _
      generalize w.alloc (.cells #[.int .i64 2, .int .i64 n, .string ⟨#[]⟩, .int .i64 0, .int .i64 0, .int .i64 0] 54) = W at *
      have q : ∀ j, W.cell? ⟨w.heap.size, j, none⟩ = (#[.int .i64 2, .int .i64 n, .string ⟨#[]⟩, .int .i64 0, .int .i64 0, .int .i64 0] : Array Value)[j]? := BV.cell
      clear BV
      refine (between_any _ _ _ _).mono ?_
      rintro e w1 ⟨rfl, rfl⟩
      rw [hbt]
      go_upto_region 3 with fail
      go_quiet (fail)
      have X1 : Ext w (W.drewN nq) := X0.drewN nq
      go_wp2_with (go_at_call 51; refine (between_any _ _ _ _).mono ?_; rintro e w3 ⟨rfl, rfl⟩)
      go_loop [5] (fun i => i = .int .i64 0) (fun _ => 0)
      case atStart => rfl
      case round =>
        obtain rfl := hrel
        go_wp2_with fail
        go_ret
        exact ⟨rfl, X1⟩
    · have hz : chk ⟨2, n, ⟨#[]⟩, a, b, c⟩ = 12 := by
        unfold chk noS noT
        simp only [not_and] at hT
        simp [ByteArray.toList_eq]
        intro h1 h2 h3
        exact absurd h3 (hT h1 h2)
      rw [hz]
      clear hz
      have hnt := fun W => neq_rstamp a b c 0 0 0 W
      rw [decide_eq_false hT] at hnt
      clear hT
      go_enter Try.func25, Try.ntmps25
      go_wp2_with fail
      have BV := Bk.new w #[.int .i64 2, .int .i64 n, .string ⟨#[]⟩, .int .i64 a, .int .i64 b, .int .i64 c] 54 w.heap.size rfl
      have X0 : Ext w (w.alloc (.cells #[.int .i64 2, .int .i64 n, .string ⟨#[]⟩, .int .i64 a, .int .i64 b, .int .i64 c] 54)) := (Ext.refl w).alloc _
      generalize w.alloc (.cells #[.int .i64 2, .int .i64 n, .string ⟨#[]⟩, .int .i64 a, .int .i64 b, .int .i64 c] 54) = W at *
      have q : ∀ j, W.cell? ⟨w.heap.size, j, none⟩ = (#[.int .i64 2, .int .i64 n, .string ⟨#[]⟩, .int .i64 a, .int .i64 b, .int .i64 c] : Array Value)[j]? := BV.cell
      clear BV
      refine (between_any _ _ _ _).mono ?_
      rintro e w1 ⟨rfl, rfl⟩
      rw [hbt]
      go_upto_region 3 with fail
      go_quiet (fail)
      have X1 : Ext w (W.drewN nq) := X0.drewN nq
      go_wp2_with (go_at_call 51; refine (between_any _ _ _ _).mono ?_; rintro e w3 ⟨rfl, rfl⟩)
      go_ret
      exact ⟨rfl, X1⟩
  · have hse : s.toList.isEmpty = false := by
      cases h : s.toList.isEmpty
      · rfl
      · exact absurd (by rw [bytes_eq]; rw [List.isEmpty_iff] at h; rw [h, ByteArray.toList_eq]) hS
    have hz : chk ⟨2, n, s, a, b, c⟩ = 12 := by
      unfold chk noS
      simp [hse]
    rw [hz]
    clear hz hS
    go_enter Try.func25, Try.ntmps25
    go_wp2_with fail
    have BV := Bk.new w #[.int .i64 2, .int .i64 n, .string s, .int .i64 a, .int .i64 b, .int .i64 c] 54 w.heap.size rfl
    have X0 : Ext w (w.alloc (.cells #[.int .i64 2, .int .i64 n, .string s, .int .i64 a, .int .i64 b, .int .i64 c] 54)) := (Ext.refl w).alloc _
    generalize w.alloc (.cells #[.int .i64 2, .int .i64 n, .string s, .int .i64 a, .int .i64 b, .int .i64 c] 54) = W at *
    have q : ∀ j, W.cell? ⟨w.heap.size, j, none⟩ = (#[.int .i64 2, .int .i64 n, .string s, .int .i64 a, .int .i64 b, .int .i64 c] : Array Value)[j]? := BV.cell
    clear BV
    refine (between_any _ _ _ _).mono ?_
    rintro e w1 ⟨rfl, rfl⟩
    rw [hbt]
    go_upto_region 3 with fail
    go_quiet (fail)
    have X1 : Ext w (W.drewN nq) := X0.drewN nq
    go_wp2_with (go_at_call 51; refine (between_any _ _ _ _).mono ?_; rintro e w3 ⟨rfl, rfl⟩)
    go_ret
    exact ⟨rfl, X1⟩

set_option maxRecDepth 100000 in
set_option maxHeartbeats 8000000 in
theorem checkVR_3 (k n : Int) (s : ByteArray) (a b c : Int) (w : World) (h : k = 3) : Calls Try.prog 25 #[valA ⟨k, n, s, a, b, c⟩] w fun e w' => e = .returned (.int .i64 (chk ⟨k, n, s, a, b, c⟩)) ∧ Ext w w' := by
  subst h
  have hbt : btw 3 1 5 = true := rfl
  by_cases hN : n = 0
  · subst hN
    by_cases hT : a = 0 ∧ b = 0 ∧ c = 0
    · obtain ⟨ha, hb, hc⟩ := hT
      subst ha hb hc
      have hnt := fun W => neq_rstamp 0 0 0 0 0 0 W
      rw [show decide ((0 : Int) = 0 ∧ (0 : Int) = 0 ∧ (0 : Int) = 0) = true from rfl] at hnt
      have z1 := btw_zero.1
      have z2 := btw_zero.2.1
      have z3 := btw_zero.2.2
      have hz : chk ⟨3, 0, s, 0, 0, 0⟩ = bitErr s := by
        unfold chk noN noT
        simp
      rw [hz]
      clear hz
      unfold bitErr
      by_cases h64 : 64 < s.size
      · rw [if_pos h64]
        have h6i : (64 : Int) < s.size := by omega
        go_enter Try.func25, Try.ntmps25
        go_wp2_with fail
        have BV := Bk.new w #[.int .i64 3, .int .i64 0, .string s, .int .i64 0, .int .i64 0, .int .i64 0] 54 w.heap.size rfl
        have X0 : Ext w (w.alloc (.cells #[.int .i64 3, .int .i64 0, .string s, .int .i64 0, .int .i64 0, .int .i64 0] 54)) := (Ext.refl w).alloc _
        generalize w.alloc (.cells #[.int .i64 3, .int .i64 0, .string s, .int .i64 0, .int .i64 0, .int .i64 0] 54) = W at *
        have q : ∀ j, W.cell? ⟨w.heap.size, j, none⟩ = (#[.int .i64 3, .int .i64 0, .string s, .int .i64 0, .int .i64 0, .int .i64 0] : Array Value)[j]? := BV.cell
        clear BV
        refine (between_any _ _ _ _).mono ?_
        rintro e w1 ⟨rfl, rfl⟩
        rw [hbt]
        go_upto_region 3 with fail
        go_quiet (fail)
        have X1 : Ext w (W.drewN nq) := X0.drewN nq
        go_wp2_with (go_at_call 51; refine (between_any _ _ _ _).mono ?_; rintro e w3 ⟨rfl, rfl⟩)
        go_ret
        exact ⟨rfl, X1⟩
      · rw [if_neg h64]
        have h6i : ¬ (64 : Int) < s.size := by omega
        have h6d : decide ((64 : Int) < s.size) = false := by simpa using h6i
        obtain ⟨z, hz⟩ : ∃ z : Int, (if bitB s = true then 0 else 5) = z := ⟨_, rfl⟩
        rw [hz]
        have HZ := Lib.hid hz
        clear hz
        go_enter Try.func25, Try.ntmps25
        go_wp2_with fail
        have BV := Bk.new w #[.int .i64 3, .int .i64 0, .string s, .int .i64 0, .int .i64 0, .int .i64 0] 54 w.heap.size rfl
        have X0 : Ext w (w.alloc (.cells #[.int .i64 3, .int .i64 0, .string s, .int .i64 0, .int .i64 0, .int .i64 0] 54)) := (Ext.refl w).alloc _
        generalize w.alloc (.cells #[.int .i64 3, .int .i64 0, .string s, .int .i64 0, .int .i64 0, .int .i64 0] 54) = W at *
        have q : ∀ j, W.cell? ⟨w.heap.size, j, none⟩ = (#[.int .i64 3, .int .i64 0, .string s, .int .i64 0, .int .i64 0, .int .i64 0] : Array Value)[j]? := BV.cell
        clear BV
        refine (between_any _ _ _ _).mono ?_
        rintro e w1 ⟨rfl, rfl⟩
        rw [hbt]
        go_upto_region 3 with fail
        go_quiet (fail)
        have X1 : Ext w (W.drewN nq) := X0.drewN nq
        go_wp2_with (go_at_call 51; refine (between_any _ _ _ _).mono ?_; rintro e w3 ⟨rfl, rfl⟩)
        go_loop [5] (fun i => ∃ k : Nat, k ≤ s.size ∧ i = .int .i64 k ∧ (∀ i (hi : i < s.size), i < k → (s[i] == 48 || s[i] == 49) = true)) (fun i => s.size - (intOf i).toNat)
        case atStart => exact ⟨0, Nat.zero_le _, rfl, fun i _ h => by omega⟩
        case round =>
          obtain ⟨k, hk, rfl, hall⟩ := hrel
          have HALL := Lib.hid hall
          clear hall
          by_cases hlt : k < s.size
          · have hki : (k : Int) < s.size := by omega
            have HB := Lib.hid (bit_iff s[k])
            by_cases h0 : (s[k].toNat : Int) = 48 ∨ (s[k].toNat : Int) = 49
            · have H0 := Lib.hid h0
              rcases h0 with h0 | h0
              all_goals
                go_wp2_with fail
                go_round
                case rel => exact ⟨k + 1, by omega, by go_num, fun i hi h => by
                  rcases Nat.lt_or_ge i k with h2 | h2
                  · exact HALL.out i hi h2
                  · obtain rfl : i = k := by omega
                    exact HB.out.2 H0.out⟩
                case measure => simp [intOf]; omega
            · have H0 := Lib.hid h0
              have f0 : ((s[k].toNat : Int) != 48) = true := by simp only [bne_iff_ne, ne_eq]; omega
              have f1 : ((s[k].toNat : Int) != 49) = true := by simp only [bne_iff_ne, ne_eq]; omega
              clear h0
              go_wp2_with fail
              go_ret
              refine ⟨ret_int ?_, X1⟩
              rw [← HZ.out, if_neg]
              intro hb
              exact H0.out (HB.out.1 ((bitB_iff s).1 hb k hlt))
          · have hki : ¬ (k : Int) < s.size := by omega
            go_wp2_with fail
            go_ret
            refine ⟨ret_int ?_, X1⟩
            rw [← HZ.out, if_pos ((bitB_iff s).2 fun i hi => HALL.out i hi (by omega))]
    · have hz : chk ⟨3, 0, s, a, b, c⟩ = 12 := by
        unfold chk noN noT
        simp only [not_and] at hT
        simp
        intro h1 h2 h3
        exact absurd h3 (hT h1 h2)
      rw [hz]
      clear hz
      have hnt := fun W => neq_rstamp a b c 0 0 0 W
      rw [decide_eq_false hT] at hnt
      clear hT
      go_enter Try.func25, Try.ntmps25
      go_wp2_with fail
      have BV := Bk.new w #[.int .i64 3, .int .i64 0, .string s, .int .i64 a, .int .i64 b, .int .i64 c] 54 w.heap.size rfl
      have X0 : Ext w (w.alloc (.cells #[.int .i64 3, .int .i64 0, .string s, .int .i64 a, .int .i64 b, .int .i64 c] 54)) := (Ext.refl w).alloc _
      generalize w.alloc (.cells #[.int .i64 3, .int .i64 0, .string s, .int .i64 a, .int .i64 b, .int .i64 c] 54) = W at *
      have q : ∀ j, W.cell? ⟨w.heap.size, j, none⟩ = (#[.int .i64 3, .int .i64 0, .string s, .int .i64 a, .int .i64 b, .int .i64 c] : Array Value)[j]? := BV.cell
      clear BV
      refine (between_any _ _ _ _).mono ?_
      rintro e w1 ⟨rfl, rfl⟩
      rw [hbt]
      go_upto_region 3 with fail
      go_quiet (fail)
      have X1 : Ext w (W.drewN nq) := X0.drewN nq
      go_wp2_with (go_at_call 51; refine (between_any _ _ _ _).mono ?_; rintro e w3 ⟨rfl, rfl⟩)
      go_ret
      exact ⟨rfl, X1⟩
  · have hne : (n != 0) = true := by simpa using hN
    have hz : chk ⟨3, n, s, a, b, c⟩ = 12 := by
      unfold chk noN
      simp [hN]
    rw [hz]
    clear hz hN
    go_enter Try.func25, Try.ntmps25
    go_wp2_with fail
    have BV := Bk.new w #[.int .i64 3, .int .i64 n, .string s, .int .i64 a, .int .i64 b, .int .i64 c] 54 w.heap.size rfl
    have X0 : Ext w (w.alloc (.cells #[.int .i64 3, .int .i64 n, .string s, .int .i64 a, .int .i64 b, .int .i64 c] 54)) := (Ext.refl w).alloc _
    generalize w.alloc (.cells #[.int .i64 3, .int .i64 n, .string s, .int .i64 a, .int .i64 b, .int .i64 c] 54) = W at *
    have q : ∀ j, W.cell? ⟨w.heap.size, j, none⟩ = (#[.int .i64 3, .int .i64 n, .string s, .int .i64 a, .int .i64 b, .int .i64 c] : Array Value)[j]? := BV.cell
    clear BV
    refine (between_any _ _ _ _).mono ?_
    rintro e w1 ⟨rfl, rfl⟩
    rw [hbt]
    go_upto_region 3 with fail
    go_quiet (fail)
    have X1 : Ext w (W.drewN nq) := X0.drewN nq
    go_wp2_with (go_at_call 51; refine (between_any _ _ _ _).mono ?_; rintro e w3 ⟨rfl, rfl⟩)
    go_ret
    exact ⟨rfl, X1⟩

set_option maxRecDepth 100000 in
set_option maxHeartbeats 8000000 in
theorem checkVR_4 (k n : Int) (s : ByteArray) (a b c : Int) (w : World) (h : k = 4) : Calls Try.prog 25 #[valA ⟨k, n, s, a, b, c⟩] w fun e w' => e = .returned (.int .i64 (chk ⟨k, n, s, a, b, c⟩)) ∧ Ext w w' := by
  subst h
  have hbt : btw 4 1 5 = true := rfl
  by_cases hN : n = 0
  · subst hN
    by_cases hT : a = 0 ∧ b = 0 ∧ c = 0
    · obtain ⟨ha, hb, hc⟩ := hT
      subst ha hb hc
      have hnt := fun W => neq_rstamp 0 0 0 0 0 0 W
      rw [show decide ((0 : Int) = 0 ∧ (0 : Int) = 0 ∧ (0 : Int) = 0) = true from rfl] at hnt
      have z1 := btw_zero.1
      have z2 := btw_zero.2.1
      have z3 := btw_zero.2.2
      have hz : chk ⟨4, 0, s, 0, 0, 0⟩ = if 64 < s.size then 4 else 0 := by
        unfold chk noN noT
        simp
      rw [hz]
      clear hz
      by_cases h64 : 64 < s.size
      · rw [if_pos h64]
        have h6i : (64 : Int) < s.size := by omega
        go_enter Try.func25, Try.ntmps25
        go_wp2_with fail
        have BV := Bk.new w #[.int .i64 4, .int .i64 0, .string s, .int .i64 0, .int .i64 0, .int .i64 0] 54 w.heap.size rfl
        have X0 : Ext w (w.alloc (.cells #[.int .i64 4, .int .i64 0, .string s, .int .i64 0, .int .i64 0, .int .i64 0] 54)) := (Ext.refl w).alloc _
        generalize w.alloc (.cells #[.int .i64 4, .int .i64 0, .string s, .int .i64 0, .int .i64 0, .int .i64 0] 54) = W at *
        have q : ∀ j, W.cell? ⟨w.heap.size, j, none⟩ = (#[.int .i64 4, .int .i64 0, .string s, .int .i64 0, .int .i64 0, .int .i64 0] : Array Value)[j]? := BV.cell
        clear BV
        refine (between_any _ _ _ _).mono ?_
        rintro e w1 ⟨rfl, rfl⟩
        rw [hbt]
        go_upto_region 3 with fail
        go_quiet (fail)
        have X1 : Ext w (W.drewN nq) := X0.drewN nq
        go_wp2_with (go_at_call 51; refine (between_any _ _ _ _).mono ?_; rintro e w3 ⟨rfl, rfl⟩)
        go_ret
        exact ⟨rfl, X1⟩
      · rw [if_neg h64]
        have h6i : ¬ (64 : Int) < s.size := by omega
        have h6d : decide ((64 : Int) < s.size) = false := by simpa using h6i
        go_enter Try.func25, Try.ntmps25
        go_wp2_with fail
        have BV := Bk.new w #[.int .i64 4, .int .i64 0, .string s, .int .i64 0, .int .i64 0, .int .i64 0] 54 w.heap.size rfl
        have X0 : Ext w (w.alloc (.cells #[.int .i64 4, .int .i64 0, .string s, .int .i64 0, .int .i64 0, .int .i64 0] 54)) := (Ext.refl w).alloc _
        generalize w.alloc (.cells #[.int .i64 4, .int .i64 0, .string s, .int .i64 0, .int .i64 0, .int .i64 0] 54) = W at *
        have q : ∀ j, W.cell? ⟨w.heap.size, j, none⟩ = (#[.int .i64 4, .int .i64 0, .string s, .int .i64 0, .int .i64 0, .int .i64 0] : Array Value)[j]? := BV.cell
        clear BV
        refine (between_any _ _ _ _).mono ?_
        rintro e w1 ⟨rfl, rfl⟩
        rw [hbt]
        go_upto_region 3 with fail
        go_quiet (fail)
        have X1 : Ext w (W.drewN nq) := X0.drewN nq
        go_wp2_with (go_at_call 51; refine (between_any _ _ _ _).mono ?_; rintro e w3 ⟨rfl, rfl⟩)
        go_loop [5] (fun i => i = .int .i64 0) (fun _ => 0)
        case atStart => rfl
        case round =>
          obtain rfl := hrel
          by_cases hz : 0 < s.size
          · have hzi : (0 : Int) < s.size := by omega
            go_wp2_with fail
            go_ret
            exact ⟨rfl, X1⟩
          · have hzi : ¬ (0 : Int) < s.size := by omega
            go_wp2_with fail
            go_ret
            exact ⟨rfl, X1⟩
    · have hz : chk ⟨4, 0, s, a, b, c⟩ = 12 := by
        unfold chk noN noT
        simp only [not_and] at hT
        simp
        intro h1 h2 h3
        exact absurd h3 (hT h1 h2)
      rw [hz]
      clear hz
      have hnt := fun W => neq_rstamp a b c 0 0 0 W
      rw [decide_eq_false hT] at hnt
      clear hT
      go_enter Try.func25, Try.ntmps25
      go_wp2_with fail
      have BV := Bk.new w #[.int .i64 4, .int .i64 0, .string s, .int .i64 a, .int .i64 b, .int .i64 c] 54 w.heap.size rfl
      have X0 : Ext w (w.alloc (.cells #[.int .i64 4, .int .i64 0, .string s, .int .i64 a, .int .i64 b, .int .i64 c] 54)) := (Ext.refl w).alloc _
      generalize w.alloc (.cells #[.int .i64 4, .int .i64 0, .string s, .int .i64 a, .int .i64 b, .int .i64 c] 54) = W at *
      have q : ∀ j, W.cell? ⟨w.heap.size, j, none⟩ = (#[.int .i64 4, .int .i64 0, .string s, .int .i64 a, .int .i64 b, .int .i64 c] : Array Value)[j]? := BV.cell
      clear BV
      refine (between_any _ _ _ _).mono ?_
      rintro e w1 ⟨rfl, rfl⟩
      rw [hbt]
      go_upto_region 3 with fail
      go_quiet (fail)
      have X1 : Ext w (W.drewN nq) := X0.drewN nq
      go_wp2_with (go_at_call 51; refine (between_any _ _ _ _).mono ?_; rintro e w3 ⟨rfl, rfl⟩)
      go_ret
      exact ⟨rfl, X1⟩
  · have hne : (n != 0) = true := by simpa using hN
    have hz : chk ⟨4, n, s, a, b, c⟩ = 12 := by
      unfold chk noN
      simp [hN]
    rw [hz]
    clear hz hN
    go_enter Try.func25, Try.ntmps25
    go_wp2_with fail
    have BV := Bk.new w #[.int .i64 4, .int .i64 n, .string s, .int .i64 a, .int .i64 b, .int .i64 c] 54 w.heap.size rfl
    have X0 : Ext w (w.alloc (.cells #[.int .i64 4, .int .i64 n, .string s, .int .i64 a, .int .i64 b, .int .i64 c] 54)) := (Ext.refl w).alloc _
    generalize w.alloc (.cells #[.int .i64 4, .int .i64 n, .string s, .int .i64 a, .int .i64 b, .int .i64 c] 54) = W at *
    have q : ∀ j, W.cell? ⟨w.heap.size, j, none⟩ = (#[.int .i64 4, .int .i64 n, .string s, .int .i64 a, .int .i64 b, .int .i64 c] : Array Value)[j]? := BV.cell
    clear BV
    refine (between_any _ _ _ _).mono ?_
    rintro e w1 ⟨rfl, rfl⟩
    rw [hbt]
    go_upto_region 3 with fail
    go_quiet (fail)
    have X1 : Ext w (W.drewN nq) := X0.drewN nq
    go_wp2_with (go_at_call 51; refine (between_any _ _ _ _).mono ?_; rintro e w3 ⟨rfl, rfl⟩)
    go_ret
    exact ⟨rfl, X1⟩

set_option maxRecDepth 100000 in
set_option maxHeartbeats 8000000 in
theorem checkVR_5 (k n : Int) (s : ByteArray) (a b c : Int) (w : World) (h : k = 5) : Calls Try.prog 25 #[valA ⟨k, n, s, a, b, c⟩] w fun e w' => e = .returned (.int .i64 (chk ⟨k, n, s, a, b, c⟩)) ∧ Ext w w' := by
  subst h
  have hbt : btw 5 1 5 = true := rfl
  by_cases hN : n = 0
  · subst hN
    by_cases hS : s = ⟨#[]⟩
    · subst hS
      rw [chk_time, stErr_btw]
      cases h1 : btw a 0 4294967295
      · go_enter Try.func25, Try.ntmps25
        go_wp2_with fail
        have BV := Bk.new w #[.int .i64 5, .int .i64 0, .string ⟨#[]⟩, .int .i64 a, .int .i64 b, .int .i64 c] 54 w.heap.size rfl
        have X0 : Ext w (w.alloc (.cells #[.int .i64 5, .int .i64 0, .string ⟨#[]⟩, .int .i64 a, .int .i64 b, .int .i64 c] 54)) := (Ext.refl w).alloc _
        generalize w.alloc (.cells #[.int .i64 5, .int .i64 0, .string ⟨#[]⟩, .int .i64 a, .int .i64 b, .int .i64 c] 54) = W at *
        have q : ∀ j, W.cell? ⟨w.heap.size, j, none⟩ = (#[.int .i64 5, .int .i64 0, .string ⟨#[]⟩, .int .i64 a, .int .i64 b, .int .i64 c] : Array Value)[j]? := BV.cell
        clear BV
        refine (between_any _ _ _ _).mono ?_
        rintro e w1 ⟨rfl, rfl⟩
        rw [hbt]
        go_upto_region 3 with fail
        go_quiet (fail)
        have X1 : Ext w (W.drewN nq) := X0.drewN nq
        go_wp2_with (go_at_call 51; refine (between_any _ _ _ _).mono ?_; rintro e w3 ⟨rfl, rfl⟩)
        go_ret
        exact ⟨rfl, X1⟩
      · cases h2 : btw b 0 16777215
        · go_enter Try.func25, Try.ntmps25
          go_wp2_with fail
          have BV := Bk.new w #[.int .i64 5, .int .i64 0, .string ⟨#[]⟩, .int .i64 a, .int .i64 b, .int .i64 c] 54 w.heap.size rfl
          have X0 : Ext w (w.alloc (.cells #[.int .i64 5, .int .i64 0, .string ⟨#[]⟩, .int .i64 a, .int .i64 b, .int .i64 c] 54)) := (Ext.refl w).alloc _
          generalize w.alloc (.cells #[.int .i64 5, .int .i64 0, .string ⟨#[]⟩, .int .i64 a, .int .i64 b, .int .i64 c] 54) = W at *
          have q : ∀ j, W.cell? ⟨w.heap.size, j, none⟩ = (#[.int .i64 5, .int .i64 0, .string ⟨#[]⟩, .int .i64 a, .int .i64 b, .int .i64 c] : Array Value)[j]? := BV.cell
          clear BV
          refine (between_any _ _ _ _).mono ?_
          rintro e w1 ⟨rfl, rfl⟩
          rw [hbt]
          go_upto_region 3 with fail
          go_quiet (fail)
          have X1 : Ext w (W.drewN nq) := X0.drewN nq
          go_wp2_with (go_at_call 51; refine (between_any _ _ _ _).mono ?_; rintro e w3 ⟨rfl, rfl⟩)
          go_ret
          exact ⟨rfl, X1⟩
        · cases h3 : btw c 0 255
          · go_enter Try.func25, Try.ntmps25
            go_wp2_with fail
            have BV := Bk.new w #[.int .i64 5, .int .i64 0, .string ⟨#[]⟩, .int .i64 a, .int .i64 b, .int .i64 c] 54 w.heap.size rfl
            have X0 : Ext w (w.alloc (.cells #[.int .i64 5, .int .i64 0, .string ⟨#[]⟩, .int .i64 a, .int .i64 b, .int .i64 c] 54)) := (Ext.refl w).alloc _
            generalize w.alloc (.cells #[.int .i64 5, .int .i64 0, .string ⟨#[]⟩, .int .i64 a, .int .i64 b, .int .i64 c] 54) = W at *
            have q : ∀ j, W.cell? ⟨w.heap.size, j, none⟩ = (#[.int .i64 5, .int .i64 0, .string ⟨#[]⟩, .int .i64 a, .int .i64 b, .int .i64 c] : Array Value)[j]? := BV.cell
            clear BV
            refine (between_any _ _ _ _).mono ?_
            rintro e w1 ⟨rfl, rfl⟩
            rw [hbt]
            go_upto_region 3 with fail
            go_quiet (fail)
            have X1 : Ext w (W.drewN nq) := X0.drewN nq
            go_wp2_with (go_at_call 51; refine (between_any _ _ _ _).mono ?_; rintro e w3 ⟨rfl, rfl⟩)
            go_ret
            exact ⟨rfl, X1⟩
          · go_enter Try.func25, Try.ntmps25
            go_wp2_with fail
            have BV := Bk.new w #[.int .i64 5, .int .i64 0, .string ⟨#[]⟩, .int .i64 a, .int .i64 b, .int .i64 c] 54 w.heap.size rfl
            have X0 : Ext w (w.alloc (.cells #[.int .i64 5, .int .i64 0, .string ⟨#[]⟩, .int .i64 a, .int .i64 b, .int .i64 c] 54)) := (Ext.refl w).alloc _
            generalize w.alloc (.cells #[.int .i64 5, .int .i64 0, .string ⟨#[]⟩, .int .i64 a, .int .i64 b, .int .i64 c] 54) = W at *
            have q : ∀ j, W.cell? ⟨w.heap.size, j, none⟩ = (#[.int .i64 5, .int .i64 0, .string ⟨#[]⟩, .int .i64 a, .int .i64 b, .int .i64 c] : Array Value)[j]? := BV.cell
            clear BV
            refine (between_any _ _ _ _).mono ?_
            rintro e w1 ⟨rfl, rfl⟩
            rw [hbt]
            go_upto_region 3 with fail
            go_quiet (fail)
            have X1 : Ext w (W.drewN nq) := X0.drewN nq
            go_wp2_with (go_at_call 51; refine (between_any _ _ _ _).mono ?_; rintro e w3 ⟨rfl, rfl⟩)
            go_loop [5] (fun i => i = .int .i64 0) (fun _ => 0)
            case atStart => rfl
            case round =>
              obtain rfl := hrel
              go_wp2_with fail
              go_ret
              exact ⟨rfl, X1⟩
    · have hse : s.toList.isEmpty = false := by
        cases h : s.toList.isEmpty
        · rfl
        · exact absurd (by rw [bytes_eq]; rw [List.isEmpty_iff] at h; rw [h, ByteArray.toList_eq]) hS
      have hz : chk ⟨5, 0, s, a, b, c⟩ = 12 := by
        unfold chk noN noS
        simp [hse]
      rw [hz]
      clear hz hS
      go_enter Try.func25, Try.ntmps25
      go_wp2_with fail
      have BV := Bk.new w #[.int .i64 5, .int .i64 0, .string s, .int .i64 a, .int .i64 b, .int .i64 c] 54 w.heap.size rfl
      have X0 : Ext w (w.alloc (.cells #[.int .i64 5, .int .i64 0, .string s, .int .i64 a, .int .i64 b, .int .i64 c] 54)) := (Ext.refl w).alloc _
      generalize w.alloc (.cells #[.int .i64 5, .int .i64 0, .string s, .int .i64 a, .int .i64 b, .int .i64 c] 54) = W at *
      have q : ∀ j, W.cell? ⟨w.heap.size, j, none⟩ = (#[.int .i64 5, .int .i64 0, .string s, .int .i64 a, .int .i64 b, .int .i64 c] : Array Value)[j]? := BV.cell
      clear BV
      refine (between_any _ _ _ _).mono ?_
      rintro e w1 ⟨rfl, rfl⟩
      rw [hbt]
      go_upto_region 3 with fail
      go_quiet (fail)
      have X1 : Ext w (W.drewN nq) := X0.drewN nq
      go_wp2_with (go_at_call 51; refine (between_any _ _ _ _).mono ?_; rintro e w3 ⟨rfl, rfl⟩)
      go_ret
      exact ⟨rfl, X1⟩
  · have hne : (n != 0) = true := by simpa using hN
    have hz : chk ⟨5, n, s, a, b, c⟩ = 12 := by
      unfold chk noN
      simp [hN]
    rw [hz]
    clear hz hN
    go_enter Try.func25, Try.ntmps25
    go_wp2_with fail
    have BV := Bk.new w #[.int .i64 5, .int .i64 n, .string s, .int .i64 a, .int .i64 b, .int .i64 c] 54 w.heap.size rfl
    have X0 : Ext w (w.alloc (.cells #[.int .i64 5, .int .i64 n, .string s, .int .i64 a, .int .i64 b, .int .i64 c] 54)) := (Ext.refl w).alloc _
    generalize w.alloc (.cells #[.int .i64 5, .int .i64 n, .string s, .int .i64 a, .int .i64 b, .int .i64 c] 54) = W at *
    have q : ∀ j, W.cell? ⟨w.heap.size, j, none⟩ = (#[.int .i64 5, .int .i64 n, .string s, .int .i64 a, .int .i64 b, .int .i64 c] : Array Value)[j]? := BV.cell
    clear BV
    refine (between_any _ _ _ _).mono ?_
    rintro e w1 ⟨rfl, rfl⟩
    rw [hbt]
    go_upto_region 3 with fail
    go_quiet (fail)
    have X1 : Ext w (W.drewN nq) := X0.drewN nq
    go_wp2_with (go_at_call 51; refine (between_any _ _ _ _).mono ?_; rintro e w3 ⟨rfl, rfl⟩)
    go_ret
    exact ⟨rfl, X1⟩

set_option maxRecDepth 100000 in
set_option maxHeartbeats 8000000 in
theorem checkVR_any (v : Val) (w : World) : Calls Try.prog 25 #[valA v] w fun e w' => e = .returned (.int .i64 (chk v)) ∧ Ext w w' := by
  obtain ⟨k, n, s, a, b, c⟩ := v
  by_cases hk : 1 ≤ k ∧ k ≤ 5
  · obtain h | h | h | h | h : k = 1 ∨ k = 2 ∨ k = 3 ∨ k = 4 ∨ k = 5 := by omega
    · exact checkVR_1 k n s a b c w h
    · exact checkVR_2 k n s a b c w h
    · exact checkVR_3 k n s a b c w h
    · exact checkVR_4 k n s a b c w h
    · exact checkVR_5 k n s a b c w h
  · have hbt : btw k 1 5 = false := by
      unfold btw
      rw [Bool.and_eq_false_iff, decide_eq_false_iff_not, decide_eq_false_iff_not]
      omega
    have hz : chk ⟨k, n, s, a, b, c⟩ = 10 := by
      unfold chk
      rw [if_neg (by dsimp only; omega), if_neg (by dsimp only; omega), if_neg (by dsimp only; omega), if_neg (by dsimp only; omega), if_neg (by dsimp only; omega)]
    rw [hz]
    clear hz hk
    go_enter Try.func25, Try.ntmps25
    go_wp2_with fail
    have BV := Bk.new w #[.int .i64 k, .int .i64 n, .string s, .int .i64 a, .int .i64 b, .int .i64 c] 54 w.heap.size rfl
    have X0 : Ext w (w.alloc (.cells #[.int .i64 k, .int .i64 n, .string s, .int .i64 a, .int .i64 b, .int .i64 c] 54)) := (Ext.refl w).alloc _
    generalize w.alloc (.cells #[.int .i64 k, .int .i64 n, .string s, .int .i64 a, .int .i64 b, .int .i64 c] 54) = W at *
    have q : ∀ j, W.cell? ⟨w.heap.size, j, none⟩ = (#[.int .i64 k, .int .i64 n, .string s, .int .i64 a, .int .i64 b, .int .i64 c] : Array Value)[j]? := BV.cell
    clear BV
    refine (between_any _ _ _ _).mono ?_
    rintro e w1 ⟨rfl, rfl⟩
    rw [hbt]
    go_wp2_with fail
    go_ret
    exact ⟨rfl, X0⟩
end Go.Proofs.Ytjaofbfppnmdjaa
