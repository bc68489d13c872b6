/- The walk of the statement TlvDecodes. -/
import Derived.Test.YtjaofbfppnmdjaaTlvK
import Derived.Test.YtjaofbfppnmdjaaTlvSR
import Derived.Test.YtjaofbfppnmdjaaTlvTo
import Derived.Test.YtjaofbfppnmdjaaDecPP
import Derived.Deep.QuietTactic
import Derived.BigQuiet
namespace Go.Proofs.Ytjaofbfppnmdjaa
open Go.RowKit
attribute [local go_sem ↓] Go.wp_at_zero Go.wp_at_succ

/-- What is decoded is no more than what came in. -/
theorem decF_cnt {α : Type} (ck : List α → Nat) (d : Int) (kid : List Int → List α × Int) (hk : ∀ b, ck (kid b).1 ≤ b.length) (hnil : ck [] = 0) : ∀ (f : Nat) (b : List Int), b.length ≤ f → cntS ck (decF d kid f b).1 ≤ b.length
  | 0, b, _ => by simp [decF, cntS]
  | f + 1, b, hf => by
    unfold decF
    split
    · simp [cntS]
    rename_i h0
    split
    · simp [cntS]
    rename_i h1
    split
    · simp [cntS]
    split
    · simp [cntS]
    have hk1 := hd_ok h0 (Classical.not_not.1 h1)
    have ih := decF_cnt ck d kid hk hnil f (b.drop ((hd b d).2.1 + (hd b d).2.2.1)) (by simp; omega)
    have hx : ((b.drop (hd b d).2.1).take (hd b d).2.2.1).length = (hd b d).2.2.1 := by simp; omega
    have hkk := hk ((b.drop (hd b d).2.1).take (hd b d).2.2.1)
    unfold cntS at ih ⊢
    simp only [List.length_cons, List.map_cons, List.sum_cons, List.length_drop] at ih ⊢
    split <;> simp only [List.length_nil] <;> omega
theorem cntN_nil' : ∀ n, cntN n [] = 0
  | 0 => rfl
  | _ + 1 => rfl
theorem decN_cnt : ∀ (n : Nat) (d : Int) (b : List Int), cntN n (decN n d b).1 ≤ b.length
  | 0, _, _ => Nat.zero_le _
  | n + 1, d, b => decF_cnt (cntN n) d (decN n (d + 1)) (fun b => decN_cnt n (d + 1) b) (cntN_nil' n) b.length b (Nat.le_refl _)
theorem decTop_cnt (n : Nat) (b : List Int) : cntN n (decTop n b).1 ≤ 1500 := by
  unfold decTop
  split
  · rw [cntN_nil']; omega
  · have := decN_cnt n 0 b; omega

end Go.Proofs.Ytjaofbfppnmdjaa

namespace Go.Proofs.Ytjaofbfppnmdjaa
open Go.RowKit
attribute [local go_sem ↓] Go.wp_at_zero Go.wp_at_succ
attribute [local go_sem high] slice_lh slice_lhm slice_l slice_h

theorem or_join (U b : Int) (hb : 0 ≤ b ∧ b ≤ 255) : bits .or .i64 (IntKind.i64.wrap (U * 256)) b = IntKind.i64.wrap (U * 256 + b) := by
  obtain ⟨m, hm, h2, h3⟩ : ∃ m, IntKind.i64.wrap (U * 256) = m * 256 ∧ -36028797018963968 ≤ m ∧ m ≤ 36028797018963967 := by
    refine ⟨IntKind.i64.wrap (U * 256) / 256, ?_, ?_, ?_⟩ <;> rw [IntKind.wrap_i64] <;> omega
  rw [hm, or256 m b h2 h3 hb, ← hm, IntKind.wrap_i64, IntKind.wrap_i64]
  omega
theorem joinU_56 {D : List Int} (hb : Byt D) (hl : D.length ≤ 7) : 0 ≤ joinU D ∧ joinU D < 72057594037927936 := by
  have h := joinU_lt D hb
  have := p2_le (8 * D.length) 56 (by omega)
  rw [show (2 : Int) ^ 56 = 72057594037927936 by decide] at this
  omega
theorem joinU_64 {D : List Int} (hb : Byt D) (hl : D.length ≤ 8) : 0 ≤ joinU D ∧ joinU D < 18446744073709551616 := by
  have h := joinU_lt D hb
  have := p2_le (8 * D.length) 64 (by omega)
  rw [show (2 : Int) ^ 64 = 18446744073709551616 by decide] at this
  omega
theorem joinU_take {D : List Int} {k : Nat} (h : k < D.length) : joinU (D.take (k + 1)) = joinU (D.take k) * 256 + D.getD k 0 := by
  rw [List.take_succ_eq_append_getElem h, joinU_snoc, List.getD_eq_getElem?_getD, List.getElem?_eq_getElem h]
  rfl
theorem RB.cellD {V : Nat → Prop} {w : World} {v : Value} {D : List Int} (h : RB V w v D) {k : Nat} (hk : k < D.length) : ∃ b off c, v = .slice (some ⟨b, off, none⟩) D.length c ∧ D.length ≤ c ∧ w.cell? ⟨b, off + k, none⟩ = some (.int .u8 (D.getD k 0)) := by
  obtain ⟨b, off, c, hv, hc, _, _, hcell⟩ := h.at_ (by omega)
  refine ⟨b, off, c, hv, hc, ?_⟩
  rw [hcell k hk, List.getD_eq_getElem?_getD, List.getElem?_eq_getElem hk]
  rfl
theorem wrap_zero : IntKind.i64.wrap 0 = 0 := by decide +kernel
set_option maxHeartbeats 2000000 in
theorem joinD_any {V : Nat → Prop} (D : List Int) (v : Value) (w : World) (h : RB V w v D) (hl : D.length ≤ 8) : Calls Try.prog 78 #[v] w fun e w' => e = .returned (.int .i64 (IntKind.i64.wrap (joinU D))) ∧ w = w' := by
  have HB := Lib.hid h.byt
  have HC := Lib.hid (fun k (hk : k < D.length) => h.cellD hk)
  have HT := Lib.hid (fun k (hk : k < D.length) => joinU_take hk)
  have HA : Hid (D.take D.length = D) := List.take_length
  have HL : Hid (∀ k, k < D.length → (D.take k).length ≤ 7) := fun k hk => by rw [List.length_take]; omega
  obtain ⟨a, c, rfl, _, _⟩ := h.form
  generalize D.length = n at *
  clear h
  go_enter Try.func78, Try.ntmps78
  go_wp2
  go_loop [3, 8] (fun m i => ∃ k : Nat, k ≤ n ∧ i = .int .i64 k ∧ m = .int .i64 (IntKind.i64.wrap (joinU (D.take k)))) (fun _ i => n - (intOf i).toNat)
  case atStart => exact ⟨0, by omega, rfl, by rw [List.take_zero, show joinU [] = 0 from rfl, wrap_zero]⟩
  case round =>
    obtain ⟨k, hk, rfl, rfl⟩ := hrel
    by_cases hlt : k < n
    · obtain ⟨b, off, c', hv, hcap, g0⟩ := HC.out k hlt
      simp only [Value.slice.injEq] at hv
      obtain ⟨rfl, -, rfl⟩ := hv
      have hU := joinU_56 (HB.out.take k) (HL.out k hlt)
      have hx := getD_byt HB.out k
      have HT1 := Lib.hid (HT.out k hlt)
      generalize joinU (D.take k) = U at *
      generalize D.getD k 0 = x at *
      have hor := or_join U x hx
      rw [← HT1.out] at hor
      have hwU : IntKind.i64.wrap U = U := IntWalk.i64_in U (by omega)
      rw [hwU]
      obtain ⟨s, hs⟩ : ∃ s, IntKind.i64.wrap (U * 256) = s := ⟨_, rfl⟩
      rw [hs] at hor
      obtain ⟨hx1, hx2⟩ := hx
      have hki : (k : Int) < n := by omega
      clear hwU hU
      generalize hz : IntKind.i64.wrap (joinU (D.take (k + 1))) = z at *
      have HZ := Lib.hid hz
      clear hz
      go_wp2_with fail
      go_round
      case rel => exact ⟨k + 1, by omega, by go_num, by rw [HZ.out]⟩
      case measure => simp [intOf]; omega
    · have hki : ¬ (k : Int) < n := by omega
      obtain rfl : k = n := by omega
      rw [HA.out]
      obtain ⟨z, hz⟩ : ∃ z, IntKind.i64.wrap (joinU D) = z := ⟨_, rfl⟩
      have HZ := Lib.hid hz
      rw [hz]
      clear hz
      go_wp2_with fail
      go_ret
      exact ⟨by rw [HZ.out]; rfl, rfl⟩
/-- The content that a tag and bytes are, as 'read' gives it. -/
noncomputable def contRes (t : Int) (D : List Int) : Value := match readV t D with
  | some v => .tuple #[contV v, .bool true]
  | none => .tuple #[.nilIface, .bool false]
theorem contRes_whole_no (D : List Int) (h : D.length < 1 ∨ 8 < D.length ∨ spareB D = true) : contRes 133 D = .tuple #[.nilIface, .bool false] := by
  unfold contRes readV
  rw [if_neg (by omega), if_neg (by omega), if_pos rfl, if_neg]
  rintro ⟨h1, h2, h3⟩
  rcases h with h | h | h
  · omega
  · omega
  · rw [h3] at h; cases h
theorem contRes_whole_yes (D : List Int) (h1 : 1 ≤ D.length) (h8 : D.length ≤ 8) (hs : spareB D = false) : contRes 133 D = .tuple #[.iface 124 (.int .i64 (sgnV D)), .bool true] := by
  unfold contRes readV
  rw [if_neg (by omega), if_neg (by omega), if_pos rfl, if_pos ⟨h1, h8, hs⟩]
  rfl
/-- The number with its sign: 64 bits need no more, fewer take off what is too much. -/
theorem sgn_eight {D : List Int} (hb : Byt D) (hl : D.length = 8) : IntKind.i64.wrap (joinU D) = sgnV D := by
  obtain ⟨x, r, rfl⟩ : ∃ x r, D = x :: r := by
    cases D with
    | nil => simp at hl
    | cons x r => exact ⟨x, r, rfl⟩
  have hr : r.length = 7 := by simpa using hl
  have hx := hb x (by simp)
  have hU := joinU_lt r (fun z hz => hb z (by simp [hz]))
  unfold sgnV
  rw [hl, joinU_cons, hr, List.getD_cons_zero]
  rw [hr, show (2 : Int) ^ (8 * 7) = 72057594037927936 by decide] at hU
  rw [show (2 : Int) ^ (8 * 7) = 72057594037927936 by decide, show (2 : Int) ^ (8 * 8) = 18446744073709551616 by decide, IntKind.wrap_i64]
  split <;> omega
set_option maxRecDepth 100000 in
set_option maxHeartbeats 4000000 in
theorem readWhole_any {V : Nat → Prop} (D : List Int) (v : Value) (w : World) (h : RB V w v D) : Calls Try.prog 77 #[v] w fun e w' => e = .returned (contRes 133 D) ∧ w = w' := by
  obtain ⟨a, c, rfl, _, hcm⟩ := h.form
  have hnm : D.length ≤ maxLen := h.le
  unfold maxLen at hnm
  by_cases hlen : 1 ≤ D.length ∧ D.length ≤ 8
  · obtain ⟨h1, h8⟩ := hlen
    have HJ := Lib.hid (joinD_any D _ w h h8)
    obtain ⟨b, off, c', hv, hcap, g0⟩ := h.cellD (k := 0) h1
    simp only [Value.slice.injEq] at hv
    obtain ⟨rfl, -, rfl⟩ := hv
    rw [Nat.add_zero] at g0
    have hd0 := getD_byt h.byt 0
    have hd1 := getD_byt h.byt 1
    have HG1 : Hid (1 < D.length → w.cell? ⟨b, off + 1, none⟩ = some (.int .u8 (D.getD 1 0))) := fun h2 => by
      obtain ⟨b', off', c'', hv, _, g⟩ := h.cellD (k := 1) h2
      simp only [Value.slice.injEq, Option.some.injEq, Addr.mk.injEq, and_true] at hv
      obtain ⟨⟨rfl, rfl⟩, -⟩ := hv
      exact g
    have hsp : spareB D = (decide (1 < D.length) && ((decide (D.getD 0 0 = 0) && decide (D.getD 1 0 < 128)) || (decide (D.getD 0 0 = 255) && decide (128 ≤ D.getD 1 0)))) := rfl
    by_cases hs : spareB D = true
    · rw [contRes_whole_no D (.inr (.inr hs))]
      have h2 : 1 < D.length ∧ ((D.getD 0 0 = 0 ∧ D.getD 1 0 < 128) ∨ (D.getD 0 0 = 255 ∧ 128 ≤ D.getD 1 0)) := by
        rw [hsp] at hs
        simpa using hs
      obtain ⟨h2, h3⟩ := h2
      have g1 := HG1.out h2
      generalize D.getD 0 0 = d0 at *
      generalize D.getD 1 0 = d1 at *
      clear hs hsp HJ h HG1
      generalize D.length = n at *
      have e1 : (1 : Int) < n := by omega
      have e2 : ¬ (n : Int) < 1 := by omega
      have e3 : ¬ (8 : Int) < n := by omega
      obtain ⟨d11, d12⟩ := hd1
      obtain ⟨d01, d02⟩ := hd0
      rcases h3 with ⟨rfl, h3⟩ | ⟨rfl, h3⟩
      all_goals
        go_enter Try.func77, Try.ntmps77
        go_wp2_with fail
        go_ret2
        exact ⟨rfl, rfl⟩
    · have hs : spareB D = false := by simpa using hs
      rw [contRes_whole_yes D h1 h8 hs]
      have hn2 : ¬ (1 < D.length ∧ ((D.getD 0 0 = 0 ∧ D.getD 1 0 < 128) ∨ (D.getD 0 0 = 255 ∧ 128 ≤ D.getD 1 0))) := by
        rw [hsp] at hs
        intro hh
        rw [Bool.and_eq_false_iff, Bool.or_eq_false_iff, Bool.and_eq_false_iff, Bool.and_eq_false_iff] at hs
        simp only [decide_eq_false_iff_not] at hs
        omega
      have HS8 := Lib.hid (fun hl => sgn_eight h.byt hl)
      have HS7 : Hid (∀ m, D.length = m → m < 8 → IntKind.i64.wrap (joinU D) = joinU D ∧ sgnV D = if 128 ≤ D.getD 0 0 then joinU D - 2 ^ (8 * m) else joinU D) := fun m hm h7 => by
        have := joinU_56 h.byt (by omega)
        exact ⟨IntWalk.i64_in _ (by omega), by subst hm; rfl⟩
      have HU : Hid (∀ m, D.length = m → m < 8 → 0 ≤ joinU D ∧ joinU D < 72057594037927936) := fun m hm h7 => joinU_56 h.byt (by omega)
      clear hs hsp h
      generalize D.getD 0 0 = d0 at *
      generalize D.getD 1 0 = d1 at *
      generalize joinU D = U at *
      generalize sgnV D = S at *
      generalize D.length = n at *
      obtain ⟨d11, d12⟩ := hd1
      obtain ⟨d01, d02⟩ := hd0
      have hway : n = 1 ∨ (1 < n ∧ d0 ≠ 0 ∧ d0 ≠ 255) ∨ (1 < n ∧ d0 = 0 ∧ ¬ d1 < 128) ∨ (1 < n ∧ d0 = 255 ∧ ¬ 128 ≤ d1) := by omega
      have hsgn : ∃ J, IntKind.i64.wrap U = J ∧ ((n = 8 ∧ J = S) ∨ (n < 8 ∧ 128 ≤ d0 ∧ S = J - 2 ^ (8 * n) ∧ 0 ≤ J ∧ J < 72057594037927936) ∨ (n < 8 ∧ d0 < 128 ∧ J = S)) := by
        refine ⟨_, rfl, ?_⟩
        rcases Nat.lt_or_ge n 8 with h | h
        · have h7 := HS7.out n rfl h
          have hu := HU.out n rfl h
          rw [h7.1, h7.2]
          by_cases hd : 128 ≤ d0
          · rw [if_pos hd]; exact .inr (.inl ⟨h, hd, rfl, hu⟩)
          · rw [if_neg hd]; exact .inr (.inr ⟨h, by omega, rfl⟩)
        · exact .inl ⟨by omega, HS8.out (by omega)⟩
      obtain ⟨J, hJ, hsgn⟩ := hsgn
      rw [hJ] at HJ
      have e8 : ¬ (8 : Int) < n := by omega
      have e1 : ¬ (n : Int) < 1 := by omega
      clear HS8 HS7 HU hJ hn2
      rcases hsgn with ⟨rfl, rfl⟩ | ⟨h7, hdg, hS, hj0, hj1⟩ | ⟨h7, hdg, rfl⟩
      · obtain f0 | ⟨-, h2, h3⟩ | ⟨-, rfl, h3⟩ | ⟨-, rfl, h3⟩ := hway
        · omega
        · have g1 := HG1.out (by omega)
          have f2 : (d0 == 0) = false := by simpa using h2
          have f3 : (d0 == 255) = false := by simpa using h3
          clear h2 h3 HG1
          go_enter Try.func77, Try.ntmps77
          go_wp2_with fail
          refine HJ.out.mono ?_
          rintro e w1 ⟨rfl, rfl⟩
          go_wp2_with fail
          go_ret2
          exact ⟨rfl, rfl⟩
        · have g1 := HG1.out (by omega)
          have f2 : decide (d1 < 128) = false := by simpa using h3
          clear HG1
          go_enter Try.func77, Try.ntmps77
          go_wp2_with fail
          refine HJ.out.mono ?_
          rintro e w1 ⟨rfl, rfl⟩
          go_wp2_with fail
          go_ret2
          exact ⟨rfl, rfl⟩
        · have g1 := HG1.out (by omega)
          have f2 : decide (128 ≤ d1) = false := by simpa using h3
          clear HG1
          go_enter Try.func77, Try.ntmps77
          go_wp2_with fail
          refine HJ.out.mono ?_
          rintro e w1 ⟨rfl, rfl⟩
          go_wp2_with fail
          go_ret2
          exact ⟨rfl, rfl⟩
      · have e7 : (n : Int) < 8 := by omega
        have HPW : Hid (wrap64 (J - wrap64 (2 ^ (8 * n))) = S) := by
          have hp1 := p2_le (8 * n) 56 (by omega)
          have hp0 : (0 : Int) < 2 ^ (8 * n) := Int.pow_pos (by omega)
          rw [show (2 : Int) ^ 56 = 72057594037927936 by decide] at hp1
          show wrap64 (J - wrap64 (2 ^ (8 * n))) = S
          rw [hS]
          generalize (2 : Int) ^ (8 * n) = P at *
          unfold wrap64
          omega
        obtain f0 | ⟨f0, h2, h3⟩ | ⟨f0, rfl, h3⟩ | ⟨f0, rfl, h3⟩ := hway
        · subst f0
          clear HG1
          go_enter Try.func77, Try.ntmps77
          go_wp2_with fail
          refine HJ.out.mono ?_
          rintro e w1 ⟨rfl, rfl⟩
          go_wp2_with fail
          go_ret2
          refine ⟨?_, rfl⟩
          show Ending.returned (.tuple #[.iface 124 (.int .i64 (J - 256)), .bool true]) = _
          rw [hS, show (2 : Int) ^ (8 * 1) = 256 by decide]
        · have f1 : (1 : Int) < n := by omega
          have g1 := HG1.out (by omega)
          have f2 : (d0 == 0) = false := by simpa using h2
          have f3 : (d0 == 255) = false := by simpa using h3
          clear h2 h3 HG1
          go_enter Try.func77, Try.ntmps77
          go_wp2_with fail
          refine HJ.out.mono ?_
          rintro e w1 ⟨rfl, rfl⟩
          go_wp2_with fail
          go_ret2
          refine ⟨?_, rfl⟩
          show Ending.returned (.tuple #[.iface 124 (.int .i64 (wrap64 (J - wrap64 (2 ^ (8 * n))))), .bool true]) = _
          rw [HPW.out]
        · have f1 : (1 : Int) < n := by omega
          have g1 := HG1.out (by omega)
          have f2 : decide (d1 < 128) = false := by simpa using h3
          clear HG1
          omega
        · have f1 : (1 : Int) < n := by omega
          have g1 := HG1.out (by omega)
          have f2 : decide (128 ≤ d1) = false := by simpa using h3
          clear HG1
          go_enter Try.func77, Try.ntmps77
          go_wp2_with fail
          refine HJ.out.mono ?_
          rintro e w1 ⟨rfl, rfl⟩
          go_wp2_with fail
          go_ret2
          refine ⟨?_, rfl⟩
          show Ending.returned (.tuple #[.iface 124 (.int .i64 (wrap64 (J - wrap64 (2 ^ (8 * n))))), .bool true]) = _
          rw [HPW.out]
      · have e7 : (n : Int) < 8 := by omega
        obtain f0 | ⟨f0, h2, h3⟩ | ⟨f0, rfl, h3⟩ | ⟨f0, rfl, h3⟩ := hway
        · subst f0
          clear HG1
          go_enter Try.func77, Try.ntmps77
          go_wp2_with fail
          refine HJ.out.mono ?_
          rintro e w1 ⟨rfl, rfl⟩
          go_wp2_with fail
          go_ret2
          exact ⟨rfl, rfl⟩
        · have f1 : (1 : Int) < n := by omega
          have g1 := HG1.out (by omega)
          have f2 : (d0 == 0) = false := by simpa using h2
          have f3 : (d0 == 255) = false := by simpa using h3
          clear h2 h3 HG1
          go_enter Try.func77, Try.ntmps77
          go_wp2_with fail
          refine HJ.out.mono ?_
          rintro e w1 ⟨rfl, rfl⟩
          go_wp2_with fail
          go_ret2
          exact ⟨rfl, rfl⟩
        · have f1 : (1 : Int) < n := by omega
          have g1 := HG1.out (by omega)
          have f2 : decide (d1 < 128) = false := by simpa using h3
          clear HG1
          go_enter Try.func77, Try.ntmps77
          go_wp2_with fail
          refine HJ.out.mono ?_
          rintro e w1 ⟨rfl, rfl⟩
          go_wp2_with fail
          go_ret2
          exact ⟨rfl, rfl⟩
        · have f1 : (1 : Int) < n := by omega
          have g1 := HG1.out (by omega)
          have f2 : decide (128 ≤ d1) = false := by simpa using h3
          clear HG1
          omega
  · rw [contRes_whole_no D (by omega)]
    clear h
    generalize D.length = n at *
    by_cases h1 : (n : Int) < 1
    · go_enter Try.func77, Try.ntmps77
      go_wp2_with fail
      go_ret2
      exact ⟨rfl, rfl⟩
    · have h8 : (8 : Int) < n := by omega
      go_enter Try.func77, Try.ntmps77
      go_wp2_with fail
      go_ret2
      exact ⟨rfl, rfl⟩
end Go.Proofs.Ytjaofbfppnmdjaa

namespace Go.Proofs.Ytjaofbfppnmdjaa
open Go.RowKit
attribute [local go_sem ↓] Go.wp_at_zero Go.wp_at_succ

theorem and_bit : ∀ (x : Fin 256) (r : Fin 8), (bits .and .u8 (x.1 : Int) (128 / 2 ^ r.1) != 0) = x.1.testBit (7 - r.1) := by decide +kernel
theorem and_bitAt {D : List Int} (hb : Byt D) (k : Nat) : (bits .and .u8 (D.getD (1 + k / 8) 0) (128 / 2 ^ (k % 8)) != 0) = bitAt D k := by
  have hx := getD_byt hb (1 + k / 8)
  have h := and_bit ⟨(D.getD (1 + k / 8) 0).toNat, by omega⟩ ⟨k % 8, Nat.mod_lt _ (by omega)⟩
  simp only at h
  rw [Int.toNat_of_nonneg hx.1] at h
  exact h
/-- The first m bits as the bytes of a string. -/
def bl (D : List Int) (m : Nat) : List Int := (List.range m).map fun i => if bitAt D i = true then 49 else 48
theorem bl_snoc (D : List Int) (m : Nat) : bl D (m + 1) = bl D m ++ [if bitAt D m = true then 49 else 48] := by
  unfold bl; rw [List.range_succ, List.map_append]; rfl
theorem bl_len (D : List Int) (m : Nat) : (bl D m).length = m := by simp [bl]
theorem bl_byt (D : List Int) (m : Nat) : Byt (bl D m) := fun x hx => by
  simp only [bl, List.mem_map] at hx
  obtain ⟨i, _, rfl⟩ := hx
  split <;> omega
theorem bl_str (D : List Int) : strOfNums (bl D (cntB D)) = strL (bitsOf D) := by
  rw [bytes_eq, Lib.strOfNums_toList, ByteArray.toList_eq]
  unfold bl bitsOf strL Lib.bytesOf
  simp only [List.map_map]
  apply List.map_congr_left
  intro i _
  simp only [Function.comp]
  cases bitAt D i <;> rfl
theorem contRes_bits_no (D : List Int) (h : ¬ bitsOk D) : contRes 132 D = .tuple #[.nilIface, .bool false] := by
  unfold contRes readV
  rw [if_neg (by omega), if_pos rfl, if_neg h]
theorem contRes_bits_yes (D : List Int) (h : bitsOk D) : contRes 132 D = .tuple #[.iface 125 (.string (strL (bitsOf D))), .bool true] := by
  unfold contRes readV
  rw [if_neg (by omega), if_pos rfl, if_pos h]
  rfl
set_option maxRecDepth 100000 in
set_option maxHeartbeats 8000000 in
theorem readBits_any {V : Nat → Prop} (D : List Int) (v : Value) (w : World) (h : RB V w v D) : Calls Try.prog 76 #[v] w fun e w' => e = .returned (contRes 132 D) ∧ Ext w w' := by
  obtain ⟨i0, hi0, hz0, hz1, hz2⟩ := info_parts info_byte
  obtain ⟨a, c, rfl, _, hcm⟩ := h.form
  by_cases hlen : 1 ≤ D.length ∧ D.length ≤ 9
  · obtain ⟨h1, h9⟩ := hlen
    obtain ⟨b, off, c', hv, hcap, g0⟩ := h.cellD (k := 0) h1
    simp only [Value.slice.injEq] at hv
    obtain ⟨rfl, -, rfl⟩ := hv
    rw [Nat.add_zero] at g0
    have hd0 := getD_byt h.byt 0
    have HBY := Lib.hid h.byt
    have HBT := Lib.hid (fun k => and_bitAt h.byt k)
    have HC : Hid (∀ w', Ext w w' → ∀ k, k < D.length → w'.cell? ⟨b, off + k, none⟩ = some (.int .u8 (D.getD k 0))) := fun w' he k hk => by
      obtain ⟨b', off', c'', hv, _, g⟩ := (h.ext he).cellD hk
      simp only [Value.slice.injEq, Option.some.injEq, Addr.mk.injEq, and_true] at hv
      obtain ⟨⟨rfl, rfl⟩, -⟩ := hv
      exact g
    have hbok : bitsOk D ↔ (1 ≤ D.length ∧ D.length ≤ 9 ∧ D.getD 0 0 ≤ 7 ∧ (D.getD 0 0).toNat ≤ 8 * (D.length - 1) ∧ ∀ k, cntB D ≤ k → k < 8 * (D.length - 1) → bitAt D k = false) := Iff.rfl
    have hcn : cntB D = 8 * (D.length - 1) - (D.getD 0 0).toNat := rfl
    have HBOK := Lib.hid hbok
    have HST := Lib.hid (bl_str D)
    have HBS := Lib.hid (bl_snoc D)
    have HBB := Lib.hid (bl_byt D)
    have HBN := Lib.hid (bl_len D)
    have HNO := Lib.hid (contRes_bits_no D)
    have HYES := Lib.hid (contRes_bits_yes D)
    clear hbok h
    generalize D.getD 0 0 = d0 at *
    generalize hn : D.length = n at *
    have e1 : ¬ (n : Int) < 1 := by omega
    have e2 : ¬ (9 : Int) < n := by omega
    have hi1 : (0 : Int) < n := by omega
    obtain ⟨d01, d02⟩ := hd0
    by_cases h7 : d0 ≤ 7
    · obtain ⟨T, hT⟩ : ∃ T, T = 8 * (n - 1) := ⟨_, rfl⟩
      rw [← hT] at hcn HBOK
      have hTi : 8 * ((n : Int) - 1) = (T : Int) := by omega
      have hT64 : T ≤ 64 := by omega
      have HTN := Lib.hid hT
      have e3 : decide ((7 : Int) < d0) = false := by simpa using h7
      clear hT
      by_cases hneg : (T : Int) - d0 < 0
      · rw [HNO.out (fun hb => by have := (HBOK.out.1 hb).2.2.2.1; omega)]
        clear hcn hn
        go_enter Try.func76, Try.ntmps76
        go_wp2_with fail
        go_ret2
        exact ⟨rfl, Ext.refl _⟩
      · obtain ⟨cn, hcn2⟩ : ∃ cn, cn = cntB D := ⟨_, rfl⟩
        rw [← hcn2] at hcn HBOK HST
        have hci : (T : Int) - d0 = (cn : Int) := by omega
        have hc64 : cn ≤ T := by omega
        have HCN := Lib.hid hcn
        have h7b := Lib.hid h7
        have HDT : Hid (d0.toNat ≤ T) := by have : d0.toNat ≤ T := by omega
                                            exact this
        clear hcn hcn2 hn h7
        have hneg2 : ¬ (cn : Int) < 0 := by omega
        go_enter Try.func76, Try.ntmps76
        go_wp2_with (at_make; refine wpList_make_own _ rfl _ _ 25 rfl w.heap.size 5 i0 _ 1 Try.underlying25 hi0 hz0 hz1 _ _ _ cn rfl rfl (by omega) (by rw [hz2]; omega) (by unfold maxLen; omega) (Nat.le_refl _) ?_; intro w2 hown2 hg2; have he2 := (Ext.refl w).trans (ext_of_grown hg2))
        have HO2 := Lib.hid hown2
        have HX2 := Lib.hid he2
        clear hown2 hg2 he2 hTi hci hneg
        go_loopw [5, 39] (fun o i wr => ∃ (k m : Nat), k ≤ T ∧ m = min k cn ∧ i = .int .i64 k ∧ wr.ownsRow w.heap.size 5 1 o m ((bl D m).map (Value.int .u8)) ∧ Ext w wr ∧ (∀ j, cn ≤ j → j < k → bitAt D j = false)) (fun _ i _ => T - (intOf i).toNat)
        case atStart => exact ⟨0, 0, by omega, by omega, rfl, HO2.out, HX2.out, fun j _ h => by omega⟩
        case round =>
          obtain ⟨k, m, hk, hm, rfl, hown, hx, hall⟩ := hrel
          by_cases hlt : k < T
          · have hki : (k : Int) < T := by omega
            have h0 := HTN.out
            have h1' : (k : Int) / 8 < n - 1 := by omega
            have h2 : (0 : Int) ≤ (k : Int) / 8 := by omega
            have h3 : (1 + (k : Int) / 8).toNat = 1 + k / 8 := by omega
            have h4 : ((k : Int) % 8).toNat = k % 8 := by omega
            have h5 : (1 + (k : Int) / 8) < (n : Int) := by omega
            have h6 : (0 : Int) ≤ 1 + (k : Int) / 8 := by omega
            have q0 : wr.cell? ⟨b, off + (1 + k / 8), none⟩ = some (.int .u8 (D.getD (1 + k / 8) 0)) := HC.out wr hx (1 + k / 8) (by omega)
            have e1' : IntKind.i64.wrap ((k : Int) / 8) = (k : Int) / 8 := IntWalk.i64_in _ (by omega)
            have e2' : IntKind.i64.wrap (1 + (k : Int) / 8) = 1 + (k : Int) / 8 := IntWalk.i64_in _ (by omega)
            have e3' : IntKind.i64.wrap ((k : Int) % 8) = (k : Int) % 8 := IntWalk.i64_in _ (by omega)
            have e4' : (k : Int).tmod 8 = (k : Int) % 8 := Int.tmod_eq_emod_of_nonneg (by omega)
            have h7' : (0 : Int) ≤ (k : Int) % 8 := by omega
            have h8' : (k : Int) % 8 ≤ 8 := by omega
            have hbt := HBT.out k
            have HO := Lib.hid hown
            have HX := Lib.hid hx
            have HALL := Lib.hid hall
            have HM := Lib.hid hm
            have hmm : m ≤ 64 := by omega
            clear h0 hown hx hall hm
            generalize D.getD (1 + k / 8) 0 = x at *
            by_cases hkc : k < cn
            · have hge : decide ((cn : Int) ≤ k) = false := by simp only [decide_eq_false_iff_not]; omega
              have hgt : ¬ (cn : Int) ≤ k := by omega
              have hsn := HBS.out m
              have hmk : m = k := by have := HM.out; omega
              cases hbv : bitAt D k
              · rw [hbv] at hbt
                rw [hmk, hbv] at hsn
                rw [← hmk] at hsn
                have HSN := Lib.hid hsn
                clear hsn hbv hmk
                obtain ⟨xs, hxs⟩ : ∃ xs, (bl D m).map (Value.int .u8) = xs := ⟨_, rfl⟩
                have HXS := Lib.hid hxs
                rw [hxs] at HO
                clear hxs
                go_upto_region 10 with fail
                go_quiet (fail)
                clear e1' e2' e3' e4'
                go_wp2_with (at_builtin; refine wpList_append_src _ rfl (.tmp 53) (.tmp 54) _ rfl w.heap.size 5 i0 _ 1 1 Try.underlying25 hi0 hz0 hz1 hz2 rfl (by omega) _ m xs rfl (own_ext HO.out (((Ext.refl wr).drewN _).alloc _)) _ 1 1 [.int .u8 48] rfl (Src.litB _ #[.int .u8 48] 5 1 _ (by simp) rfl (by simp [Value.oneCell'])) (by unfold maxLen; omega) (by omega) ((HX.out.drewN _).alloc _).size ?_; intro A1 c1 w1 hown1 hg1 hat1)
                have hX1 : Ext w w1 := ((HX.out.drewN _).alloc _).grown hg1 (fun g hg => (HO.out.lt g hg).1)
                have HO1 := Lib.hid hown1
                clear hown1 hg1 hat1
                go_wp2_with fail
                go_roundw
                case rel => exact ⟨k + 1, m + 1, by omega, by have := HM.out; omega, by go_num, by rw [HSN.out, List.map_append, HXS.out]; exact HO1.out, hX1, fun j h1 h2 => absurd h2 (by omega)⟩
                case measure => simp [intOf]; omega
              · rw [hbv] at hbt
                rw [hmk, hbv] at hsn
                rw [← hmk] at hsn
                have HSN := Lib.hid hsn
                clear hsn hbv hmk
                obtain ⟨xs, hxs⟩ : ∃ xs, (bl D m).map (Value.int .u8) = xs := ⟨_, rfl⟩
                have HXS := Lib.hid hxs
                rw [hxs] at HO
                clear hxs
                go_upto_region 10 with fail
                go_quiet (fail)
                clear e1' e2' e3' e4'
                go_wp2_with (at_builtin; refine wpList_append_src _ rfl (.tmp 69) (.tmp 70) _ rfl w.heap.size 5 i0 _ 1 1 Try.underlying25 hi0 hz0 hz1 hz2 rfl (by omega) _ m xs rfl (own_ext HO.out (((Ext.refl wr).drewN _).alloc _)) _ 1 1 [.int .u8 49] rfl (Src.litB _ #[.int .u8 49] 5 1 _ (by simp) rfl (by simp [Value.oneCell'])) (by unfold maxLen; omega) (by omega) ((HX.out.drewN _).alloc _).size ?_; intro A1 c1 w1 hown1 hg1 hat1)
                have hX1 : Ext w w1 := ((HX.out.drewN _).alloc _).grown hg1 (fun g hg => (HO.out.lt g hg).1)
                have HO1 := Lib.hid hown1
                clear hown1 hg1 hat1
                go_wp2_with fail
                go_roundw
                case rel => exact ⟨k + 1, m + 1, by omega, by have := HM.out; omega, by go_num, by rw [HSN.out, List.map_append, HXS.out]; exact HO1.out, hX1, fun j h1 h2 => absurd h2 (by omega)⟩
                case measure => simp [intOf]; omega
            · have hge : decide ((cn : Int) ≤ k) = true := by simp only [decide_eq_true_eq]; omega
              have hgt : (cn : Int) ≤ k := by omega
              cases hbv : bitAt D k
              · rw [hbv] at hbt
                have HBV := Lib.hid hbv
                clear hbv
                go_upto_region 10 with fail
                go_quiet (fail)
                clear e1' e2' e3' e4'
                go_wp2_with fail
                go_roundw
                case rel => exact ⟨k + 1, m, by omega, by have := HM.out; omega, by go_num, own_ext HO.out ((Ext.refl wr).drewN _), HX.out.drewN _, fun j h1 h2 => by
                  by_cases hj : j = k
                  · subst hj; exact HBV.out
                  · exact HALL.out j h1 (by omega)⟩
                case measure => simp [intOf]; omega
              · rw [hbv] at hbt
                have HEND := Lib.hid (HNO.out (fun hb => by
                  have := (HBOK.out.1 hb).2.2.2.2 k (by omega) hlt
                  rw [hbv] at this
                  cases this))
                clear hbv
                go_upto_region 10 with fail
                go_quiet (fail)
                clear e1' e2' e3' e4'
                go_wp2_with fail
                go_ret2
                exact ⟨by rw [HEND.out]; rfl, HX.out.drewN _⟩
          · have hki : ¬ (k : Int) < T := by omega
            have hmc : m = cn := by omega
            have HEND := Lib.hid (HYES.out (HBOK.out.2 ⟨h1, h9, h7b.out, HDT.out, fun j h1 h2 => hall j h1 (by omega)⟩))
            subst hmc
            have hown2 : wr.ownsRow w.heap.size 5 1 u5 (bl D m).length ((bl D m).map (Value.int .u8)) := by rw [HBN.out]; exact hown
            obtain ⟨a5, c5, rfl⟩ := owns_slice hown
            have hr := RB.of_own hown2 (HBB.out m) (V := Any) (fun _ h => h.elim)
            have hcv := hr.conv (P := Try.prog) 25 125 5 Try.underlying25 Try.underlying5 Try.underlying125
            rw [HST.out] at hcv
            generalize strL (bitsOf D) = S at *
            clear hown hown2 hr hm hall
            go_wp2_with fail
            go_ret2
            exact ⟨by rw [HEND.out]; rfl, hx⟩
    · have e3 : decide ((7 : Int) < d0) = true := by simp only [decide_eq_true_eq]; omega
      rw [HNO.out (fun hb => h7 (HBOK.out.1 hb).2.2.1)]
      clear hcn hn
      go_enter Try.func76, Try.ntmps76
      go_wp2_with fail
      go_ret2
      exact ⟨rfl, Ext.refl _⟩
  · rw [contRes_bits_no D (fun hb => hlen ⟨hb.1, hb.2.1⟩)]
    have hnm : D.length ≤ maxLen := h.le
    unfold maxLen at hnm
    clear h
    generalize D.length = n at *
    by_cases h1 : (n : Int) < 1
    · go_enter Try.func76, Try.ntmps76
      go_wp2_with fail
      go_ret2
      exact ⟨rfl, Ext.refl _⟩
    · have h8 : (9 : Int) < n := by omega
      go_enter Try.func76, Try.ntmps76
      go_wp2_with fail
      go_ret2
      exact ⟨rfl, Ext.refl _⟩
end Go.Proofs.Ytjaofbfppnmdjaa

namespace Go.Proofs.Ytjaofbfppnmdjaa
open Go.RowKit
attribute [local go_sem ↓] Go.wp_at_zero Go.wp_at_succ

theorem slice_h4 (w : World) (b off len cap : Nat) (h : 4 ≤ cap) : (Instr.slice 25 (.slice (some ⟨b, off, none⟩) len cap) none (some (.int .i64 4)) none).run Try.prog w = .ok (.slice (some ⟨b, off, none⟩) 4 cap) w := slice_h w b off len cap 4 h
theorem slice_47 (w : World) (b off len cap : Nat) (h : 7 ≤ cap) : (Instr.slice 25 (.slice (some ⟨b, off, none⟩) len cap) (some (.int .i64 4)) (some (.int .i64 7)) none).run Try.prog w = .ok (.slice (cutA b off cap 4) 3 (cap - 4)) w := slice_lh w b off len cap 4 3 h
attribute [local go_sem high] slice_h4 slice_47
theorem contRes_of_none {t : Int} {D : List Int} (h : readV t D = none) : contRes t D = .tuple #[.nilIface, .bool false] := by
  unfold contRes; rw [h]
theorem contRes_of_some {t : Int} {D : List Int} {v : Val} (h : readV t D = some v) : contRes t D = .tuple #[contV v, .bool true] := by
  unfold contRes; rw [h]
theorem readV_other {t : Int} {D : List Int} (h1 : t ≠ 131) (h2 : t ≠ 132) (h3 : t ≠ 133) (h4 : t ≠ 138) (h5 : t ≠ 145) : readV t D = none := by
  unfold readV
  rw [if_neg h1, if_neg h2, if_neg h3, if_neg h4, if_neg h5]
theorem knownTag_any (t : Int) (w : World) : Calls Try.prog 54 #[.int .i64 t] w fun e w' => e = .returned (.bool (decide (kindT t ≠ 0))) ∧ w = w' := by
  by_cases h : t = 131 ∨ t = 132 ∨ t = 133 ∨ t = 138 ∨ t = 145
  · rcases h with rfl | rfl | rfl | rfl | rfl
    all_goals
      go_enter Try.func54, Try.ntmps54
      go_wp2_with fail
      go_ret
      exact ⟨rfl, rfl⟩
  · have hk : decide (kindT t ≠ 0) = false := by
      unfold kindT
      rw [if_neg (by omega), if_neg (by omega), if_neg (by omega), if_neg (by omega), if_neg (by omega)]
      rfl
    have e1 : (t == 131) = false := by simp only [beq_eq_false_iff_ne, ne_eq]; omega
    have e2 : (t == 132) = false := by simp only [beq_eq_false_iff_ne, ne_eq]; omega
    have e3 : (t == 133) = false := by simp only [beq_eq_false_iff_ne, ne_eq]; omega
    have e4 : (t == 138) = false := by simp only [beq_eq_false_iff_ne, ne_eq]; omega
    have e5 : (t == 145) = false := by simp only [beq_eq_false_iff_ne, ne_eq]; omega
    rw [hk]
    clear h hk
    go_enter Try.func54, Try.ntmps54
    go_wp2_with fail
    go_ret
    exact ⟨rfl, rfl⟩
theorem joinD_seven {V : Nat → Prop} (D : List Int) (v : Value) (w : World) (h : RB V w v D) (hl : D.length ≤ 7) : Calls Try.prog 78 #[v] w fun e w' => e = .returned (.int .i64 (joinU D)) ∧ w' = w :=
  (joinD_any D v w h (by omega)).mono fun _ _ ⟨he, hw⟩ => by
    have := joinU_56 h.byt hl
    rw [IntWalk.i64_in _ (by omega)] at he
    exact ⟨he, hw.symm⟩
set_option maxRecDepth 100000 in
set_option maxHeartbeats 8000000 in
theorem readD_any {V : Nat → Prop} (t : Int) (D : List Int) (v : Value) (w : World) (h : RB V w v D) : Calls Try.prog 55 #[.int .i64 t, v] w fun e w' => e = .returned (contRes t D) ∧ Ext w w' := by
  have hnm : D.length ≤ maxLen := h.le
  unfold maxLen at hnm
  obtain ⟨a, c, rfl, _, hcm⟩ := h.form
  by_cases h132 : t = 132
  · subst h132
    have HB := Lib.hid (readBits_any D _ w h)
    obtain ⟨r1, r2, hr⟩ : ∃ r1 r2, contRes 132 D = .tuple #[r1, r2] := by unfold contRes; split <;> exact ⟨_, _, rfl⟩
    rw [hr] at HB ⊢
    clear h hr
    generalize D.length = n at *
    go_enter Try.func55, Try.ntmps55
    go_wp2_with fail
    refine HB.out.mono ?_
    rintro e w1 ⟨rfl, x1⟩
    go_wp2_with fail
    go_ret2
    exact ⟨rfl, x1⟩
  by_cases h133 : t = 133
  · subst h133
    have HB := Lib.hid (readWhole_any D _ w h)
    obtain ⟨r1, r2, hr⟩ : ∃ r1 r2, contRes 133 D = .tuple #[r1, r2] := by unfold contRes; split <;> exact ⟨_, _, rfl⟩
    rw [hr] at HB ⊢
    clear h hr
    generalize D.length = n at *
    go_enter Try.func55, Try.ntmps55
    go_wp2_with fail
    refine HB.out.mono ?_
    rintro e w1 ⟨rfl, rfl⟩
    go_wp2_with fail
    go_ret2
    exact ⟨rfl, Ext.refl _⟩
  by_cases h131 : t = 131
  · subst h131
    by_cases hl : D.length = 1
    · obtain ⟨b, off, c', hv, hcap, g0⟩ := h.cellD (k := 0) (by omega)
      simp only [Value.slice.injEq] at hv
      obtain ⟨rfl, -, rfl⟩ := hv
      rw [Nat.add_zero] at g0
      have hd0 := getD_byt h.byt 0
      obtain ⟨d01, d02⟩ := hd0
      by_cases hd : D.getD 0 0 ≤ 1
      · have hr : readV 131 D = some ⟨1, D.getD 0 0, noStr, 0, 0, 0⟩ := by unfold readV; rw [if_pos rfl, if_pos ⟨hl, hd⟩]
        rw [contRes_of_some hr]
        have hc : contV ⟨1, D.getD 0 0, noStr, 0, 0, 0⟩ = .iface 123 (.int .i64 (D.getD 0 0)) := rfl
        rw [hc]
        have e3 : decide (1 < D.getD 0 0) = false := by simpa using hd
        rw [hl] at *
        clear h hr hc hl
        generalize D.getD 0 0 = d0 at *
        go_enter Try.func55, Try.ntmps55
        go_wp2_with fail
        go_ret2
        exact ⟨rfl, Ext.refl _⟩
      · have hr : readV 131 D = none := by unfold readV; rw [if_pos rfl, if_neg (fun h => hd h.2)]
        rw [contRes_of_none hr]
        have e3 : decide (1 < D.getD 0 0) = true := by simp only [decide_eq_true_eq]; omega
        rw [hl] at *
        clear h hr hl
        generalize D.getD 0 0 = d0 at *
        go_enter Try.func55, Try.ntmps55
        go_wp2_with fail
        go_ret2
        exact ⟨rfl, Ext.refl _⟩
    · have hr : readV 131 D = none := by unfold readV; rw [if_pos rfl, if_neg (fun h => hl h.1)]
      rw [contRes_of_none hr]
      have e3 : ((D.length : Int) != 1) = true := by simp only [bne_iff_ne, ne_eq]; omega
      clear h hr hl
      generalize D.length = n at *
      go_enter Try.func55, Try.ntmps55
      go_wp2_with fail
      go_ret2
      exact ⟨rfl, Ext.refl _⟩
  by_cases h138 : t = 138
  · subst h138
    by_cases hl : D.length ≤ 64
    · have hr : readV 138 D = some ⟨4, 0, strOfNums D, 0, 0, 0⟩ := by
        unfold readV
        rw [if_neg h131, if_neg h132, if_neg h133, if_pos rfl, if_pos hl]
      rw [contRes_of_some hr]
      have hc : contV ⟨4, 0, strOfNums D, 0, 0, 0⟩ = .iface 126 (.string (strOfNums D)) := rfl
      rw [hc]
      have hcv := h.conv (P := Try.prog) 25 126 5 Try.underlying25 Try.underlying5 Try.underlying126
      generalize strOfNums D = S at *
      clear h hr hc
      have e3 : ¬ (64 : Int) < D.length := by omega
      generalize D.length = n at *
      go_enter Try.func55, Try.ntmps55
      go_wp2_with fail
      go_ret2
      exact ⟨rfl, Ext.refl _⟩
    · have hr : readV 138 D = none := by
        unfold readV
        rw [if_neg h131, if_neg h132, if_neg h133, if_pos rfl, if_neg hl]
      rw [contRes_of_none hr]
      have e3 : (64 : Int) < D.length := by omega
      clear h hr hl
      generalize D.length = n at *
      go_enter Try.func55, Try.ntmps55
      go_wp2_with fail
      go_ret2
      exact ⟨rfl, Ext.refl _⟩
  by_cases h145 : t = 145
  · subst h145
    by_cases hl : D.length = 8
    · have hr : readV 145 D = some ⟨5, 0, noStr, joinU (D.take 4), joinU ((D.drop 4).take 3), D.getD 7 0⟩ := by
        unfold readV
        rw [if_neg h131, if_neg h132, if_neg h133, if_neg h138, if_pos rfl, if_pos hl]
      rw [contRes_of_some hr]
      have hc : contV ⟨5, 0, noStr, joinU (D.take 4), joinU ((D.drop 4).take 3), D.getD 7 0⟩ = .iface 127 (.agg #[.int .i64 (joinU (D.take 4)), .int .i64 (joinU ((D.drop 4).take 3)), .int .i64 (D.getD 7 0)]) := rfl
      rw [hc]
      obtain ⟨b, off, c', hv, hcap, g7⟩ := h.cellD (k := 7) (by omega)
      simp only [Value.slice.injEq] at hv
      obtain ⟨rfl, -, rfl⟩ := hv
      have hd7 := getD_byt h.byt 7
      obtain ⟨d71, d72⟩ := hd7
      rw [hl] at hcap
      have hcm2 := hcm
      unfold maxLen at hcm2
      have HJ1 := Lib.hid (fun m => joinD_seven (D.take 4) (.slice (some ⟨b, off, none⟩) 4 c) (w.drewN m) (by
        have h5 := h.cut 0 4 (c + 1) c (by omega) (by omega) (by omega) hcm
        unfold cutA at h5
        rw [if_neg (by omega)] at h5
        exact h5.ext ((Ext.refl w).drewN m)) (by simp; omega))
      have HJ2 := Lib.hid (fun m => joinD_seven ((D.drop 4).take 3) (.slice (cutA b off c 4) 3 (c - 4)) (w.drewN m) ((h.cut 4 3 c (c - 4) (by omega) (by omega) (by omega) (by omega)).ext ((Ext.refl w).drewN m)) (by simp; omega))
      rw [hl] at *
      clear h hr hc hl
      generalize joinU (D.take 4) = j1 at *
      generalize joinU ((D.drop 4).take 3) = j2 at *
      generalize D.getD 7 0 = d7 at *
      have c4 : 4 ≤ c := by omega
      have c7 : 7 ≤ c := by omega
      go_enter Try.func55, Try.ntmps55
      go_upto_region 17 with fail
      go_quiet ((first | (with_reducible exact Calls.quiet_of_same (HJ1.out _)) | (with_reducible exact Calls.quiet_of_same (HJ2.out _)) | fail))
      go_wp2_with fail
      go_ret2
      exact ⟨rfl, (Ext.refl w).drewN _⟩
    · have hr : readV 145 D = none := by
        unfold readV
        rw [if_neg h131, if_neg h132, if_neg h133, if_neg h138, if_pos rfl, if_neg hl]
      rw [contRes_of_none hr]
      have e3 : ((D.length : Int) != 8) = true := by simp only [bne_iff_ne, ne_eq]; omega
      clear h hr hl
      generalize D.length = n at *
      go_enter Try.func55, Try.ntmps55
      go_wp2_with fail
      go_ret2
      exact ⟨rfl, Ext.refl _⟩
  · rw [contRes_of_none (readV_other h131 h132 h133 h138 h145)]
    have e1 : (t == 131) = false := by simp only [beq_eq_false_iff_ne, ne_eq]; omega
    have e2 : (t == 132) = false := by simp only [beq_eq_false_iff_ne, ne_eq]; omega
    have e3 : (t == 133) = false := by simp only [beq_eq_false_iff_ne, ne_eq]; omega
    have e4 : (t == 138) = false := by simp only [beq_eq_false_iff_ne, ne_eq]; omega
    have e5 : (t == 145) = false := by simp only [beq_eq_false_iff_ne, ne_eq]; omega
    clear h h131 h132 h133 h138 h145
    generalize D.length = n at *
    go_enter Try.func55, Try.ntmps55
    go_wp2_with fail
    go_ret2
    exact ⟨rfl, Ext.refl _⟩
end Go.Proofs.Ytjaofbfppnmdjaa

namespace Go.Proofs.Ytjaofbfppnmdjaa
open Go.RowKit
attribute [local go_sem ↓] Go.wp_at_zero Go.wp_at_succ

/-- It returns values and an error. -/
def RetVE (w : World) (l : List Val) (er : Int) (e : Ending) (w' : World) : Prop :=
  ∃ a c, e = .returned (.tuple #[.slice a l.length c, .int .i64 er]) ∧ Ext w w' ∧ ∀ V, (∀ k, V k → k < w.heap.size) → RF V 6 valE w' (.slice a l.length c) l
theorem RetVE.nil {w w' : World} (er : Int) (h : Ext w w') : RetVE w [] er (.returned (.tuple #[.slice none 0 0, .int .i64 er])) w' := ⟨none, 0, rfl, h, fun V _ => RF.nil V 6 valE w'⟩
theorem back_of {v : Val} (h : chk v = 0) : backV v = v := by
  have h1 := chk_of v (chk_kind h)
  rw [h] at h1
  split at h1
  · rename_i h2; simpa using h2
  · omega
theorem valsE_bad {α : Type} (l : List (NodeOf α)) (k : Nat) (x : NodeOf α) (hx : l[k]? = some x) (h0 : fstErr ((l.take k).map errV) = 0) (he : errV x ≠ 0) : valsE l = errV x ∧ valsV l = [] := by
  obtain ⟨hk, rfl⟩ := List.getElem?_eq_some_iff.1 hx
  have h1 := fstErr_take_succ errV l k hk h0
  have h2 := fstErr_of_take errV l (k + 1) (by rw [h1]; exact he)
  have h3 : valsE l = errV l[k] := by unfold valsE; rw [h2, h1]
  refine ⟨h3, ?_⟩
  unfold valsV
  rw [if_neg (by rw [h3]; exact he)]
theorem valsOf_snoc {α : Type} (l : List (NodeOf α)) (k : Nat) (x : NodeOf α) (v : Val) (hx : l[k]? = some x) (hr : readV x.1 x.2.1 = some v) : valsOf (l.take (k + 1)) = valsOf (l.take k) ++ [v] := by
  unfold valsOf
  rw [List.take_add_one, hx]
  simp [hr]
set_option maxRecDepth 100000 in
set_option maxHeartbeats 8000000 in
theorem valuesP_any {α : Type} (R : Rk α) {V : Nat → Prop} (l : List (NodeOf α)) (v : Value) (w : World) (h : (nodesRk R).rk V w v l) (hl : l.length ≤ 1000000) : Calls Try.prog 34 #[v] w (RetVE w (valsV l) (valsE l)) := by
  obtain ⟨i0, hi0, hz0, hz1, hz2⟩ := info_parts info_val
  obtain ⟨a, c, rfl, hc1, hc2⟩ := (nodesRk R).form h
  have HG : Hid (∀ w', Ext w w' → ∀ k x, l[k]? = some x → ∃ b off c' da dc ka kc, (Value.slice a l.length c) = .slice (some ⟨b, off, none⟩) l.length c' ∧ w'.cell? ⟨b, off + k * 3, none⟩ = some (.int .i64 x.1) ∧
      w'.cell? ⟨b, off + k * 3 + 1, none⟩ = some (.slice da x.2.1.length dc) ∧ w'.cell? ⟨b, off + k * 3 + 2, none⟩ = some (.slice ka x.2.2.length kc) ∧ RB V w' (.slice da x.2.1.length dc) x.2.1) := fun w' he k x hx => by
    obtain ⟨hk, rfl⟩ := List.getElem?_eq_some_iff.1 hx
    obtain ⟨b, off, c', da, dc, ka, kc, hv, _, _, g0, g1, g2, hd, _⟩ := node_at ((nodesRk R).ext h he) hk
    exact ⟨b, off, c', da, dc, ka, kc, hv, g0, g1, g2, hd⟩
  have HER : Hid (∀ (k : Nat) x w' er, l[k]? = some x → fstErr ((l.take k).map errV) = 0 → errV x = er → er ≠ 0 → Ext w w' → RetVE w (valsV l) (valsE l) (.returned (.tuple #[.slice none 0 0, .int .i64 er])) w') := fun k x w' er hx h0 he hne hw => by
    have := valsE_bad l k x hx h0 (by rw [he]; exact hne)
    rw [this.1, this.2, he]
    exact RetVE.nil _ hw
  have HOK : Hid (∀ w' a' c', fstErr (l.map errV) = 0 → Ext w w' → w'.ownsRow w.heap.size 43 6 (.slice a' l.length c') l.length ((valsOf l).flatMap valE) → RetVE w (valsV l) (valsE l) (.returned (.tuple #[.slice a' l.length c', .int .i64 0])) w') := fun w' a' c' h0 he ho => by
    have hv := valsV_len l h0
    unfold valsV
    rw [show valsE l = 0 from h0, if_pos rfl]
    refine ⟨a', c', by rw [hv], he, fun V hV => ?_⟩
    rw [hv]
    refine RF.of_own (base := w.heap.size) (e := 43) valE_len ?_ hV
    rw [hv]; exact ho
  have HTS : Hid (∀ k x, l[k]? = some x → fstErr ((l.take k).map errV) = 0 → fstErr ((l.take (k + 1)).map errV) = errV x) := fun k x hx h0 => by
    obtain ⟨hk, rfl⟩ := List.getElem?_eq_some_iff.1 hx
    exact fstErr_take_succ errV l k hk h0
  obtain ⟨n, hn⟩ : ∃ n, l.length = n := ⟨_, rfl⟩
  have HN := Lib.hid hn
  rw [hn] at hc1 hl HOK HG ⊢
  clear h hc2 hn
  go_enter Try.func34, Try.ntmps34
  go_wp2_with (at_make; refine wpList_make_own _ rfl _ _ 22 rfl w.heap.size 43 i0 _ 6 Try.underlying22 hi0 hz0 hz1 _ _ _ n rfl rfl (by omega) (by rw [hz2]; omega) (by unfold maxLen; omega) (Nat.le_refl _) ?_; intro w2 hown2 hg2; have he2 := (Ext.refl w).trans (ext_of_grown hg2))
  have HO2 := Lib.hid hown2
  have HX2 := Lib.hid he2
  clear hown2 hg2 he2
  go_loopw [4, 14] (fun o i wr => ∃ (k : Nat), k ≤ n ∧ i = .int .i64 k ∧ wr.ownsRow w.heap.size 43 6 o k ((valsOf (l.take k)).flatMap valE) ∧ fstErr ((l.take k).map errV) = 0 ∧ Ext w wr) (fun _ i _ => n - (intOf i).toNat)
  case atStart => exact ⟨0, by omega, rfl, HO2.out, rfl, HX2.out⟩
  case round =>
    obtain ⟨k, hk, rfl, hown, hok, hx⟩ := hrel
    by_cases hlt : k < n
    · obtain ⟨x, hxv⟩ : ∃ x, l[k]? = some x := ⟨_, List.getElem?_eq_getElem (by rw [HN.out]; exact hlt)⟩
      obtain ⟨b, off, c', da, dc, ka, kc, hv, g0, g1, g2, hrb⟩ := HG.out wr hx k x hxv
      simp only [Value.slice.injEq] at hv
      obtain ⟨rfl, -, rfl⟩ := hv
      have hki : (k : Int) < n := by omega
      have HX := Lib.hid hx
      have HO := Lib.hid hown
      have HE := Lib.hid (fun w' er he hne hw => HER.out k x w' er hxv hok he hne hw)
      have HRB := Lib.hid hrb
      have HTK := Lib.hid (fun v hr => valsOf_snoc l k x v hxv hr)
      have HOKN : Hid (errV x = 0 → fstErr ((l.take (k + 1)).map errV) = 0) := fun h => by
        rw [HTS.out k x hxv hok]
        exact h
      have HKT := Lib.hid (fun w1 => knownTag_any x.1 w1)
      have HRD := Lib.hid (fun w1 (he : Ext wr w1) => readD_any x.1 x.2.1 _ w1 (hrb.ext he))
      have herr : errV x = if kindT x.1 = 0 ∨ 0 < x.2.2.length then 15 else if readV x.1 x.2.1 = none then 16 else 0 := rfl
      have hcan := Lib.hid (fun v hr => readV_canon x.1 x.2.1 hrb.byt v hr)
      generalize hdl : x.2.1.length = dl at *
      generalize hkl : x.2.2.length = kl at *
      clear hown hok hxv hx HER hrb hdl hkl
      obtain ⟨xs, hxs⟩ : ∃ xs, (valsOf (l.take k)).flatMap valE = xs := ⟨_, rfl⟩
      rw [hxs] at HO
      have HXS := Lib.hid hxs
      clear hxs
      obtain ⟨t, D, ks⟩ := x
      simp only at *
      go_upto_region 5 with fail
      have hW : Ext wr (wr.alloc (.cells #[.int .i64 t, .slice da dl dc, .slice ka kl kc] 45)) := (Ext.refl wr).alloc _
      have BV := Bk.new wr #[.int .i64 t, .slice da dl dc, .slice ka kl kc] 45 wr.heap.size rfl
      generalize wr.alloc (.cells #[.int .i64 t, .slice da dl dc, .slice ka kl kc] 45) = w1 at *
      have q1 : ∀ j, w1.cell? ⟨wr.heap.size, j, none⟩ = (#[.int .i64 t, .slice da dl dc, .slice ka kl kc] : Array Value)[j]? := BV.cell
      clear g0 g1 g2
      by_cases hkt : kindT t = 0
      · rw [if_pos (.inl hkt)] at herr
        have HF := Lib.hid (fun w' hw => HE.out w' 15 herr (by omega) hw)
        rw [decide_eq_false (fun h => h hkt)] at HKT
        clear herr hcan
        go_wp2_with fail
        refine (HKT.out _).mono ?_
        rintro e w2 ⟨rfl, rfl⟩
        go_wp2_with fail
        go_ret2
        exact HF.out _ (HX.out.trans hW)
      · rw [decide_eq_true hkt] at HKT
        by_cases hk0 : 0 < kl
        · rw [if_pos (.inr hk0)] at herr
          have HF := Lib.hid (fun w' hw => HE.out w' 15 herr (by omega) hw)
          have hki2 : (0 : Int) < kl := by omega
          clear herr hcan
          go_wp2_with fail
          refine (HKT.out _).mono ?_
          rintro e w2 ⟨rfl, rfl⟩
          go_wp2_with fail
          go_ret2
          exact HF.out _ (HX.out.trans hW)
        · rw [if_neg (by omega)] at herr
          have hki2 : ¬ (0 : Int) < kl := by omega
          cases hrv : readV t D with
          | none =>
            rw [if_pos hrv] at herr
            have HF := Lib.hid (fun w' hw => HE.out w' 16 herr (by omega) hw)
            rw [contRes_of_none hrv] at HRD
            clear herr hcan hrv
            go_wp2_with fail
            refine (HKT.out _).mono ?_
            rintro e w2 ⟨rfl, rfl⟩
            go_wp2_with fail
            refine (HRD.out _ hW).mono ?_
            rintro e w3 ⟨rfl, x3⟩
            go_wp2_with fail
            go_ret2
            exact HF.out _ ((HX.out.trans hW).trans x3)
          | some y =>
            rw [if_neg (by rw [hrv]; simp)] at herr
            rw [contRes_of_some hrv] at HRD
            have hcc := (hcan.out y hrv).1
            have HVO := Lib.hid (fun w1 => valueOf_yes y w1 (chk_kind hcc))
            rw [back_of hcc] at HVO
            have HTY := Lib.hid (HTK.out y hrv)
            have HON := Lib.hid (HOKN.out herr)
            clear herr hcan hrv hcc HTK HOKN
            obtain ⟨vk, vn, vs, va, vb, vc⟩ := y
            have HVP : Hid (∀ w1, Calls Try.prog 50 #[contV ⟨vk, vn, vs, va, vb, vc⟩] w1 fun e w' => e = .returned (.agg #[.int .i64 vk, .int .i64 vn, .string vs, .int .i64 va, .int .i64 vb, .int .i64 vc]) ∧ Ext w1 w') := HVO
            clear HVO
            generalize contV ⟨vk, vn, vs, va, vb, vc⟩ = cv at *
            go_wp2_with fail
            refine (HKT.out _).mono ?_
            rintro e w2 ⟨rfl, rfl⟩
            go_wp2_with fail
            refine (HRD.out _ hW).mono ?_
            rintro e w3 ⟨rfl, x3⟩
            go_wp2_with fail
            refine (HVP.out _).mono ?_
            rintro e w4 ⟨rfl, x4⟩
            have E4 : Ext wr w4 := (hW.trans x3).trans x4
            clear x3 x4 hW BV q1
            go_wp2_with (at_builtin; refine wpList_append_src _ rfl (.tmp 38) (.tmp 41) _ rfl w.heap.size 43 i0 _ 6 56 Try.underlying22 hi0 hz0 hz1 hz2 rfl (by omega) u4 k xs rfl ((own_ext HO.out E4).alloc _) _ 1 1 [.int .i64 vk, .int .i64 vn, .string vs, .int .i64 va, .int .i64 vb, .int .i64 vc] rfl (Src.litB _ #[.int .i64 vk, .int .i64 vn, .string vs, .int .i64 va, .int .i64 vb, .int .i64 vc] _ 6 _ (by simp) rfl (by simp [Value.oneCell'])) (by unfold maxLen; omega) (by omega) ((HX.out.trans E4).alloc _).size ?_; intro A6 c6 w6 hown6 hg6 hat6)
            have hx6 : Ext w w6 := ((HX.out.trans E4).alloc _).grown hg6 (fun g hg => (HO.out.lt g hg).1)
            have HO6 := Lib.hid hown6
            clear hown6 hg6 hat6 E4
            go_wp2_with fail
            go_roundw
            case rel => exact ⟨k + 1, by omega, by go_num, by rw [HTY.out, List.flatMap_append, HXS.out]; exact HO6.out, HON.out, hx6⟩
            case measure => simp [intOf]; omega
    · have hki : ¬ (k : Int) < n := by omega
      have hl2 := take_all l k (by rw [HN.out]; omega)
      rw [hl2] at hown hok
      obtain rfl : k = n := by omega
      obtain ⟨a', c', rfl⟩ := owns_slice hown
      have HF := Lib.hid (HOK.out wr a' c' hok hx hown)
      clear hown hok hx
      go_wp2_with fail
      go_ret2
      exact HF.out
set_option maxHeartbeats 2000000 in
theorem decDP_any (bs : List Int) (v : Value) (w : World) (h : RB Any w v bs) : Calls Try.prog 32 #[v] w (RetVE w (decDV bs) (decDE bs)) := by
  have HD := Lib.hid (decodeP_any 7 bs v w (by omega) h)
  have hb := decTop_bad 7 bs
  have hl : ((decTop 7 bs).1 : List (NodeOf (Nd 6))).length ≤ 1000000 := by
    have h1 := decTop_cnt 7 bs
    exact Nat.le_trans (Nat.le_trans (Nat.le_add_right _ _) h1) (by omega)
  have HV := Lib.hid (fun w1 v1 (h1 : (nodesRk (RkN 6)).rk Any w1 v1 (decTop 7 bs).1) => valuesP_any (RkN 6) (decTop 7 bs).1 v1 w1 h1 hl)
  have e1 : decDV bs = if (decTop 7 bs).2 = 0 then valsV (α := Nd 6) (decTop 7 bs).1 else [] := rfl
  have e2 : decDE bs = if (decTop 7 bs).2 = 0 then valsE (α := Nd 6) (decTop 7 bs).1 else (decTop 7 bs).2 := rfl
  rw [e1, e2]
  obtain ⟨a, c, rfl, _, _⟩ := h.form
  clear h e1 e2 hl
  generalize decTop 7 bs = z at *
  obtain ⟨l, er⟩ := z
  simp only at *
  by_cases her : er = 0
  · subst her
    rw [if_pos rfl, if_pos rfl]
    clear hb
    generalize valsV (α := Nd 6) l = L at *
    generalize valsE (α := Nd 6) l = E at *
    generalize bs.length = n at *
    go_enter Try.func32, Try.ntmps32
    go_wp2_with fail
    refine HD.out.mono ?_
    rintro e w1 ⟨a1, c1, rfl, x1, r1⟩
    have HV1 := Lib.hid (HV.out w1 _ (r1 Any (fun _ h => h.elim)))
    clear r1 HV HD
    generalize l.length = m at *
    go_wp2_with fail
    refine HV1.out.mono ?_
    rintro e w2 ⟨a2, c2, rfl, x2, r2⟩
    go_wp2_with fail
    go_ret2
    exact ⟨a2, c2, rfl, x1.trans x2, fun V hV => r2 V (fun k hk => x1.lt (hV k hk))⟩
  · rw [if_neg her, if_neg her]
    have her2 : (er != 0) = true := by simpa using her
    clear HV hb her
    generalize bs.length = n at *
    go_enter Try.func32, Try.ntmps32
    go_wp2_with fail
    refine HD.out.mono ?_
    rintro e w1 ⟨a1, c1, rfl, x1, r1⟩
    clear r1
    generalize l.length = m at *
    go_wp2_with fail
    go_ret2
    exact RetVE.nil _ x1
end Go.Proofs.Ytjaofbfppnmdjaa
