/- Contracts of reading numbers out of bytes: layer 11, the program. -/
import Derived.Test.YtjaofbfppnmdjaaDecP
import Derived.Test.YtjaofbfppnmdjaaTlvK
namespace Go.Proofs.Ytjaofbfppnmdjaa
open Go.RowKit
attribute [local go_sem ↓] Go.wp_at_zero Go.wp_at_succ
attribute [local go_sem high] slice_lh slice_lhm slice_l slice_h

theorem or_join (U b : Int) (hb : 0 ≤ b ∧ b ≤ 255) : bits .or .i64 (IntKind.i64.wrap (U * 256)) b = IntKind.i64.wrap (U * 256 + b) := by
  obtain ⟨m, hm, h2, h3⟩ : ∃ m, IntKind.i64.wrap (U * 256) = m * 256 ∧ -36028797018963968 ≤ m ∧ m ≤ 36028797018963967 := by
    refine ⟨IntKind.i64.wrap (U * 256) / 256, ?_, ?_, ?_⟩ <;> rw [IntKind.wrap_i64] <;> omega
  rw [hm, or256 m b h2 h3 hb, ← hm, IntKind.wrap_i64, IntKind.wrap_i64]
  omega
theorem joinU_56 {D : List Int} (hb : Byt D) (hl : D.length ≤ 7) : 0 ≤ joinU D ∧ joinU D < 72057594037927936 := by
  have h := joinU_lt D hb
  have := p2_le (8 * D.length) 56 (by omega)
  rw [show (2 : Int) ^ 56 = 72057594037927936 by decide] at this
  omega
theorem joinU_64 {D : List Int} (hb : Byt D) (hl : D.length ≤ 8) : 0 ≤ joinU D ∧ joinU D < 18446744073709551616 := by
  have h := joinU_lt D hb
  have := p2_le (8 * D.length) 64 (by omega)
  rw [show (2 : Int) ^ 64 = 18446744073709551616 by decide] at this
  omega
theorem joinU_take {D : List Int} {k : Nat} (h : k < D.length) : joinU (D.take (k + 1)) = joinU (D.take k) * 256 + D.getD k 0 := by
  rw [List.take_succ_eq_append_getElem h, joinU_snoc, List.getD_eq_getElem?_getD, List.getElem?_eq_getElem h]
  rfl
theorem RB.cellD {V : Nat → Prop} {w : World} {v : Value} {D : List Int} (h : RB V w v D) {k : Nat} (hk : k < D.length) : ∃ b off c, v = .slice (some ⟨b, off, none⟩) D.length c ∧ D.length ≤ c ∧ w.cell? ⟨b, off + k, none⟩ = some (.int .u8 (D.getD k 0)) := by
  obtain ⟨b, off, c, hv, hc, _, _, hcell⟩ := h.at_ (by omega)
  refine ⟨b, off, c, hv, hc, ?_⟩
  rw [hcell k hk, List.getD_eq_getElem?_getD, List.getElem?_eq_getElem hk]
  rfl
theorem wrap_zero : IntKind.i64.wrap 0 = 0 := by decide +kernel
set_option maxHeartbeats 2000000 in
theorem joinD_any {V : Nat → Prop} (D : List Int) (v : Value) (w : World) (h : RB V w v D) (hl : D.length ≤ 8) : Calls Try.prog 78 #[v] w fun e w' => e = .returned (.int .i64 (IntKind.i64.wrap (joinU D))) ∧ w = w' := by
  have HB := Lib.hid h.byt
  have HC := Lib.hid (fun k (hk : k < D.length) => h.cellD hk)
  have HT := Lib.hid (fun k (hk : k < D.length) => joinU_take hk)
  have HA : Hid (D.take D.length = D) := List.take_length
  have HL : Hid (∀ k, k < D.length → (D.take k).length ≤ 7) := fun k hk => by rw [List.length_take]; omega
  obtain ⟨a, c, rfl, _, _⟩ := h.form
  generalize D.length = n at *
  clear h
  go_enter Try.func78, Try.ntmps78
  go_wp2
  go_loop [3, 8] (fun m i => ∃ k : Nat, k ≤ n ∧ i = .int .i64 k ∧ m = .int .i64 (IntKind.i64.wrap (joinU (D.take k)))) (fun _ i => n - (intOf i).toNat)
  case atStart => exact ⟨0, by omega, rfl, by rw [List.take_zero, show joinU [] = 0 from rfl, wrap_zero]⟩
  case round =>
    obtain ⟨k, hk, rfl, rfl⟩ := hrel
    by_cases hlt : k < n
    · obtain ⟨b, off, c', hv, hcap, g0⟩ := HC.out k hlt
      simp only [Value.slice.injEq] at hv
      obtain ⟨rfl, -, rfl⟩ := hv
      have hU := joinU_56 (HB.out.take k) (HL.out k hlt)
      have hx := getD_byt HB.out k
      have HT1 := Lib.hid (HT.out k hlt)
      generalize joinU (D.take k) = U at *
      generalize D.getD k 0 = x at *
      have hor := or_join U x hx
      rw [← HT1.out] at hor
      have hwU : IntKind.i64.wrap U = U := IntWalk.i64_in U (by omega)
      rw [hwU]
      obtain ⟨s, hs⟩ : ∃ s, IntKind.i64.wrap (U * 256) = s := ⟨_, rfl⟩
      rw [hs] at hor
      obtain ⟨hx1, hx2⟩ := hx
      have hki : (k : Int) < n := by omega
      clear hwU hU
      generalize hz : IntKind.i64.wrap (joinU (D.take (k + 1))) = z at *
      have HZ := Lib.hid hz
      clear hz
      go_wp2_with fail
      go_round
      case rel => exact ⟨k + 1, by omega, by go_num, by rw [HZ.out]⟩
      case measure => simp [intOf]; omega
    · have hki : ¬ (k : Int) < n := by omega
      obtain rfl : k = n := by omega
      rw [HA.out]
      obtain ⟨z, hz⟩ : ∃ z, IntKind.i64.wrap (joinU D) = z := ⟨_, rfl⟩
      have HZ := Lib.hid hz
      rw [hz]
      clear hz
      go_wp2_with fail
      go_ret
      exact ⟨by rw [HZ.out]; rfl, rfl⟩
/-- The content that a tag and bytes are, as 'read' gives it. -/
noncomputable def contRes (t : Int) (D : List Int) : Value := match readV t D with
  | some v => .tuple #[contV v, .bool true]
  | none => .tuple #[.nilIface, .bool false]
theorem contRes_whole_no (D : List Int) (h : D.length < 1 ∨ 8 < D.length ∨ spareB D = true) : contRes 133 D = .tuple #[.nilIface, .bool false] := by
  unfold contRes readV
  rw [if_neg (by omega), if_neg (by omega), if_pos rfl, if_neg]
  rintro ⟨h1, h2, h3⟩
  rcases h with h | h | h
  · omega
  · omega
  · rw [h3] at h; cases h
theorem contRes_whole_yes (D : List Int) (h1 : 1 ≤ D.length) (h8 : D.length ≤ 8) (hs : spareB D = false) : contRes 133 D = .tuple #[.iface 124 (.int .i64 (sgnV D)), .bool true] := by
  unfold contRes readV
  rw [if_neg (by omega), if_neg (by omega), if_pos rfl, if_pos ⟨h1, h8, hs⟩]
  rfl
/-- The number with its sign: 64 bits need no more, fewer take off what is too much. -/
theorem sgn_eight {D : List Int} (hb : Byt D) (hl : D.length = 8) : IntKind.i64.wrap (joinU D) = sgnV D := by
  obtain ⟨x, r, rfl⟩ : ∃ x r, D = x :: r := by
    cases D with
    | nil => simp at hl
    | cons x r => exact ⟨x, r, rfl⟩
  have hr : r.length = 7 := by simpa using hl
  have hx := hb x (by simp)
  have hU := joinU_lt r (fun z hz => hb z (by simp [hz]))
  unfold sgnV
  rw [hl, joinU_cons, hr, List.getD_cons_zero]
  rw [hr, show (2 : Int) ^ (8 * 7) = 72057594037927936 by decide] at hU
  rw [show (2 : Int) ^ (8 * 7) = 72057594037927936 by decide, show (2 : Int) ^ (8 * 8) = 18446744073709551616 by decide, IntKind.wrap_i64]
  split <;> omega
set_option maxRecDepth 100000 in
set_option maxHeartbeats 4000000 in
theorem readWhole_any {V : Nat → Prop} (D : List Int) (v : Value) (w : World) (h : RB V w v D) : Calls Try.prog 77 #[v] w fun e w' => e = .returned (contRes 133 D) ∧ w = w' := by
  obtain ⟨a, c, rfl, _, hcm⟩ := h.form
  have hnm : D.length ≤ maxLen := h.le
  unfold maxLen at hnm
  by_cases hlen : 1 ≤ D.length ∧ D.length ≤ 8
  · obtain ⟨h1, h8⟩ := hlen
    have HJ := Lib.hid (joinD_any D _ w h h8)
    obtain ⟨b, off, c', hv, hcap, g0⟩ := h.cellD (k := 0) h1
    simp only [Value.slice.injEq] at hv
    obtain ⟨rfl, -, rfl⟩ := hv
    rw [Nat.add_zero] at g0
    have hd0 := getD_byt h.byt 0
    have hd1 := getD_byt h.byt 1
    have HG1 : Hid (1 < D.length → w.cell? ⟨b, off + 1, none⟩ = some (.int .u8 (D.getD 1 0))) := fun h2 => by
      obtain ⟨b', off', c'', hv, _, g⟩ := h.cellD (k := 1) h2
      simp only [Value.slice.injEq, Option.some.injEq, Addr.mk.injEq, and_true] at hv
      obtain ⟨⟨rfl, rfl⟩, -⟩ := hv
      exact g
    have hsp : spareB D = (decide (1 < D.length) && ((decide (D.getD 0 0 = 0) && decide (D.getD 1 0 < 128)) || (decide (D.getD 0 0 = 255) && decide (128 ≤ D.getD 1 0)))) := rfl
    by_cases hs : spareB D = true
    · rw [contRes_whole_no D (.inr (.inr hs))]
      have h2 : 1 < D.length ∧ ((D.getD 0 0 = 0 ∧ D.getD 1 0 < 128) ∨ (D.getD 0 0 = 255 ∧ 128 ≤ D.getD 1 0)) := by
        rw [hsp] at hs
        simpa using hs
      obtain ⟨h2, h3⟩ := h2
      have g1 := HG1.out h2
      generalize D.getD 0 0 = d0 at *
      generalize D.getD 1 0 = d1 at *
      clear hs hsp HJ h HG1
      generalize D.length = n at *
      have e1 : (1 : Int) < n := by omega
      have e2 : ¬ (n : Int) < 1 := by omega
      have e3 : ¬ (8 : Int) < n := by omega
      obtain ⟨d11, d12⟩ := hd1
      obtain ⟨d01, d02⟩ := hd0
      rcases h3 with ⟨rfl, h3⟩ | ⟨rfl, h3⟩
      all_goals
        go_enter Try.func77, Try.ntmps77
        go_wp2_with fail
        go_ret2
        exact ⟨rfl, rfl⟩
    · have hs : spareB D = false := by simpa using hs
      rw [contRes_whole_yes D h1 h8 hs]
      have hn2 : ¬ (1 < D.length ∧ ((D.getD 0 0 = 0 ∧ D.getD 1 0 < 128) ∨ (D.getD 0 0 = 255 ∧ 128 ≤ D.getD 1 0))) := by
        rw [hsp] at hs
        intro hh
        rw [Bool.and_eq_false_iff, Bool.or_eq_false_iff, Bool.and_eq_false_iff, Bool.and_eq_false_iff] at hs
        simp only [decide_eq_false_iff_not] at hs
        omega
      have HS8 := Lib.hid (fun hl => sgn_eight h.byt hl)
      have HS7 : Hid (∀ m, D.length = m → m < 8 → IntKind.i64.wrap (joinU D) = joinU D ∧ sgnV D = if 128 ≤ D.getD 0 0 then joinU D - 2 ^ (8 * m) else joinU D) := fun m hm h7 => by
        have := joinU_56 h.byt (by omega)
        exact ⟨IntWalk.i64_in _ (by omega), by subst hm; rfl⟩
      have HU : Hid (∀ m, D.length = m → m < 8 → 0 ≤ joinU D ∧ joinU D < 72057594037927936) := fun m hm h7 => joinU_56 h.byt (by omega)
      clear hs hsp h
      generalize D.getD 0 0 = d0 at *
      generalize D.getD 1 0 = d1 at *
      generalize joinU D = U at *
      generalize sgnV D = S at *
      generalize D.length = n at *
      obtain ⟨d11, d12⟩ := hd1
      obtain ⟨d01, d02⟩ := hd0
      have hway : n = 1 ∨ (1 < n ∧ d0 ≠ 0 ∧ d0 ≠ 255) ∨ (1 < n ∧ d0 = 0 ∧ ¬ d1 < 128) ∨ (1 < n ∧ d0 = 255 ∧ ¬ 128 ≤ d1) := by omega
      have hsgn : ∃ J, IntKind.i64.wrap U = J ∧ ((n = 8 ∧ J = S) ∨ (n < 8 ∧ 128 ≤ d0 ∧ S = J - 2 ^ (8 * n) ∧ 0 ≤ J ∧ J < 72057594037927936) ∨ (n < 8 ∧ d0 < 128 ∧ J = S)) := by
        refine ⟨_, rfl, ?_⟩
        rcases Nat.lt_or_ge n 8 with h | h
        · have h7 := HS7.out n rfl h
          have hu := HU.out n rfl h
          rw [h7.1, h7.2]
          by_cases hd : 128 ≤ d0
          · rw [if_pos hd]; exact .inr (.inl ⟨h, hd, rfl, hu⟩)
          · rw [if_neg hd]; exact .inr (.inr ⟨h, by omega, rfl⟩)
        · exact .inl ⟨by omega, HS8.out (by omega)⟩
      obtain ⟨J, hJ, hsgn⟩ := hsgn
      rw [hJ] at HJ
      have e8 : ¬ (8 : Int) < n := by omega
      have e1 : ¬ (n : Int) < 1 := by omega
      clear HS8 HS7 HU hJ hn2
      rcases hsgn with ⟨rfl, rfl⟩ | ⟨h7, hdg, hS, hj0, hj1⟩ | ⟨h7, hdg, rfl⟩
      · obtain f0 | ⟨-, h2, h3⟩ | ⟨-, rfl, h3⟩ | ⟨-, rfl, h3⟩ := hway
        · omega
        · have g1 := HG1.out (by omega)
          have f2 : (d0 == 0) = false := by simpa using h2
          have f3 : (d0 == 255) = false := by simpa using h3
          clear h2 h3 HG1
          go_enter Try.func77, Try.ntmps77
          go_wp2_with fail
          refine HJ.out.mono ?_
          rintro e w1 ⟨rfl, rfl⟩
          go_wp2_with fail
          go_ret2
          exact ⟨rfl, rfl⟩
        · have g1 := HG1.out (by omega)
          have f2 : decide (d1 < 128) = false := by simpa using h3
          clear HG1
          go_enter Try.func77, Try.ntmps77
          go_wp2_with fail
          refine HJ.out.mono ?_
          rintro e w1 ⟨rfl, rfl⟩
          go_wp2_with fail
          go_ret2
          exact ⟨rfl, rfl⟩
        · have g1 := HG1.out (by omega)
          have f2 : decide (128 ≤ d1) = false := by simpa using h3
          clear HG1
          go_enter Try.func77, Try.ntmps77
          go_wp2_with fail
          refine HJ.out.mono ?_
          rintro e w1 ⟨rfl, rfl⟩
          go_wp2_with fail
          go_ret2
          exact ⟨rfl, rfl⟩
      · have e7 : (n : Int) < 8 := by omega
        have HPW : Hid (wrap64 (J - wrap64 (2 ^ (8 * n))) = S) := by
          have hp1 := p2_le (8 * n) 56 (by omega)
          have hp0 : (0 : Int) < 2 ^ (8 * n) := Int.pow_pos (by omega)
          rw [show (2 : Int) ^ 56 = 72057594037927936 by decide] at hp1
          show wrap64 (J - wrap64 (2 ^ (8 * n))) = S
          rw [hS]
          generalize (2 : Int) ^ (8 * n) = P at *
          unfold wrap64
          omega
        obtain f0 | ⟨f0, h2, h3⟩ | ⟨f0, rfl, h3⟩ | ⟨f0, rfl, h3⟩ := hway
        · subst f0
          clear HG1
          go_enter Try.func77, Try.ntmps77
          go_wp2_with fail
          refine HJ.out.mono ?_
          rintro e w1 ⟨rfl, rfl⟩
          go_wp2_with fail
          go_ret2
          refine ⟨?_, rfl⟩
          show Ending.returned (.tuple #[.iface 124 (.int .i64 (J - 256)), .bool true]) = _
          rw [hS, show (2 : Int) ^ (8 * 1) = 256 by decide]
        · have f1 : (1 : Int) < n := by omega
          have g1 := HG1.out (by omega)
          have f2 : (d0 == 0) = false := by simpa using h2
          have f3 : (d0 == 255) = false := by simpa using h3
          clear h2 h3 HG1
          go_enter Try.func77, Try.ntmps77
          go_wp2_with fail
          refine HJ.out.mono ?_
          rintro e w1 ⟨rfl, rfl⟩
          go_wp2_with fail
          go_ret2
          refine ⟨?_, rfl⟩
          show Ending.returned (.tuple #[.iface 124 (.int .i64 (wrap64 (J - wrap64 (2 ^ (8 * n))))), .bool true]) = _
          rw [HPW.out]
        · have f1 : (1 : Int) < n := by omega
          have g1 := HG1.out (by omega)
          have f2 : decide (d1 < 128) = false := by simpa using h3
          clear HG1
          omega
        · have f1 : (1 : Int) < n := by omega
          have g1 := HG1.out (by omega)
          have f2 : decide (128 ≤ d1) = false := by simpa using h3
          clear HG1
          go_enter Try.func77, Try.ntmps77
          go_wp2_with fail
          refine HJ.out.mono ?_
          rintro e w1 ⟨rfl, rfl⟩
          go_wp2_with fail
          go_ret2
          refine ⟨?_, rfl⟩
          show Ending.returned (.tuple #[.iface 124 (.int .i64 (wrap64 (J - wrap64 (2 ^ (8 * n))))), .bool true]) = _
          rw [HPW.out]
      · have e7 : (n : Int) < 8 := by omega
        obtain f0 | ⟨f0, h2, h3⟩ | ⟨f0, rfl, h3⟩ | ⟨f0, rfl, h3⟩ := hway
        · subst f0
          clear HG1
          go_enter Try.func77, Try.ntmps77
          go_wp2_with fail
          refine HJ.out.mono ?_
          rintro e w1 ⟨rfl, rfl⟩
          go_wp2_with fail
          go_ret2
          exact ⟨rfl, rfl⟩
        · have f1 : (1 : Int) < n := by omega
          have g1 := HG1.out (by omega)
          have f2 : (d0 == 0) = false := by simpa using h2
          have f3 : (d0 == 255) = false := by simpa using h3
          clear h2 h3 HG1
          go_enter Try.func77, Try.ntmps77
          go_wp2_with fail
          refine HJ.out.mono ?_
          rintro e w1 ⟨rfl, rfl⟩
          go_wp2_with fail
          go_ret2
          exact ⟨rfl, rfl⟩
        · have f1 : (1 : Int) < n := by omega
          have g1 := HG1.out (by omega)
          have f2 : decide (d1 < 128) = false := by simpa using h3
          clear HG1
          go_enter Try.func77, Try.ntmps77
          go_wp2_with fail
          refine HJ.out.mono ?_
          rintro e w1 ⟨rfl, rfl⟩
          go_wp2_with fail
          go_ret2
          exact ⟨rfl, rfl⟩
        · have f1 : (1 : Int) < n := by omega
          have g1 := HG1.out (by omega)
          have f2 : decide (128 ≤ d1) = false := by simpa using h3
          clear HG1
          omega
  · rw [contRes_whole_no D (by omega)]
    clear h
    generalize D.length = n at *
    by_cases h1 : (n : Int) < 1
    · go_enter Try.func77, Try.ntmps77
      go_wp2_with fail
      go_ret2
      exact ⟨rfl, rfl⟩
    · have h8 : (8 : Int) < n := by omega
      go_enter Try.func77, Try.ntmps77
      go_wp2_with fail
      go_ret2
      exact ⟨rfl, rfl⟩
end Go.Proofs.Ytjaofbfppnmdjaa
