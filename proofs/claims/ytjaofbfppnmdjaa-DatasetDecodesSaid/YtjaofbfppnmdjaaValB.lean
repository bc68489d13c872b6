/- Check, Same and Clone of values: layer 11. -/
import Derived.Test.YtjaofbfppnmdjaaValA
namespace Go.Proofs.Ytjaofbfppnmdjaa
open Go.RowKit
attribute [local go_sem ↓] Go.wp_at_zero Go.wp_at_succ

theorem back_eq (v : Val) (hk : isKind v = true) : (backV v = v) ↔ ((v.kind = 1 ∨ v.kind = 2) ∧ (noS v && noT v) = true) ∨ ((v.kind = 3 ∨ v.kind = 4) ∧ (noN v && noT v) = true) ∨ (v.kind = 5 ∧ (noN v && noS v) = true) := by
  obtain ⟨k, n, s, a, b, c⟩ := v
  simp only [isKind, Bool.and_eq_true, decide_eq_true_eq] at hk
  have hs : ((⟨#[]⟩ : ByteArray) = s) ↔ s.toList.isEmpty = true := by
    rw [bytes_eq, ByteArray.toList_eq]
    simp only [List.isEmpty_iff]
    constructor <;> intro h <;> simpa using h.symm
  have hz : ∀ x : Int, (0 = x) ↔ (x = 0) := fun x => ⟨fun h => h.symm, fun h => h.symm⟩
  obtain rfl | rfl | rfl | rfl | rfl : k = 1 ∨ k = 2 ∨ k = 3 ∨ k = 4 ∨ k = 5 := by omega
  all_goals
    simp only [backV, noS, noT, noN]
    simp [hs, hz]
    try omega
theorem contV_1 (v : Val) (h : v.kind = 1) : contV v = .iface 123 (.int .i64 v.n) := by unfold contV; rw [if_pos h]
theorem contV_2 (v : Val) (h : v.kind = 2) : contV v = .iface 124 (.int .i64 v.n) := by unfold contV; rw [if_neg (by omega), if_pos h]
theorem contV_3 (v : Val) (h : v.kind = 3) : contV v = .iface 125 (.string v.s) := by unfold contV; rw [if_neg (by omega), if_neg (by omega), if_pos h]
theorem contV_4 (v : Val) (h : v.kind = 4) : contV v = .iface 126 (.string v.s) := by unfold contV; rw [if_neg (by omega), if_neg (by omega), if_neg (by omega), if_pos h]
theorem contV_5 (v : Val) (h : v.kind = 5) : contV v = .iface 127 (.agg #[.int .i64 v.sec, .int .i64 v.frac, .int .i64 v.qual]) := by unfold contV; rw [if_neg (by omega), if_neg (by omega), if_neg (by omega), if_neg (by omega)]
@[local go_sem] theorem meth_truth (x : Value) (w : World) : (method 257 123 x "substation/dataset.check").run Try.prog w = .ok (106, x) w := by kernel_rfl
@[local go_sem] theorem meth_whole (x : Value) (w : World) : (method 257 124 x "substation/dataset.check").run Try.prog w = .ok (109, x) w := by kernel_rfl
@[local go_sem] theorem meth_bits (x : Value) (w : World) : (method 257 125 x "substation/dataset.check").run Try.prog w = .ok (113, x) w := by kernel_rfl
@[local go_sem] theorem meth_text (x : Value) (w : World) : (method 257 126 x "substation/dataset.check").run Try.prog w = .ok (116, x) w := by kernel_rfl
@[local go_sem] theorem meth_moment (x : Value) (w : World) : (method 257 127 x "substation/dataset.check").run Try.prog w = .ok (119, x) w := by kernel_rfl
def chkIn (v : Val) : Int := if v.kind = 1 then (if v.n = 0 ∨ v.n = 1 then 0 else 2) else if v.kind = 2 then 0 else if v.kind = 3 then bitErr v.s else if v.kind = 4 then (if 64 < v.s.size then 4 else 0) else stErr v.sec v.frac v.qual
theorem chk_of (v : Val) (hk : isKind v = true) : chk v = if decide (backV v = v) = true then chkIn v else 12 := by
  have hb := back_eq v hk
  simp only [isKind, Bool.and_eq_true, decide_eq_true_eq] at hk
  unfold chk chkIn
  obtain h | h | h | h | h : v.kind = 1 ∨ v.kind = 2 ∨ v.kind = 3 ∨ v.kind = 4 ∨ v.kind = 5 := by omega
  all_goals
    simp only [h] at hb ⊢
    simp only [decide_eq_true_eq]
    by_cases h2 : backV v = v
    · rw [if_pos h2]
      have h3 := hb.1 h2
      simp at h3 ⊢
      try simp [h3]
    · rw [if_neg h2]
      have h3 := fun h => h2 (hb.2 h)
      simp at h3 ⊢
      first | (intro h4 h5; rw [h3 h4] at h5; cases h5) | exact h3
set_option maxRecDepth 100000 in
set_option maxHeartbeats 4000000 in
theorem checkV_any (v : Val) (w : World) : Calls Try.prog 24 #[valA v] w fun e w' => e = .returned (.int .i64 (chk v)) ∧ Ext w w' := by
  by_cases hk : isKind v = true
  · have HC := Lib.hid (fun w1 => contentOf_yes v w1 hk)
    have HV := Lib.hid (fun w1 => valueOf_yes v w1 hk)
    have hne := fun w1 => neq_val (backV v) v w1
    rw [chk_of v hk]
    obtain ⟨q, hq⟩ : ∃ q, decide (backV v = v) = q := ⟨_, rfl⟩
    rw [hq] at hne ⊢
    clear hq
    generalize backV v = bv at *
    simp only [isKind, Bool.and_eq_true, decide_eq_true_eq] at hk
    obtain ⟨k, n, s, a, b, c⟩ := v
    obtain ⟨k', n', s', a', b', c'⟩ := bv
    simp only at hk
    obtain ⟨r, hr⟩ : ∃ r, chkIn ⟨k, n, s, a, b, c⟩ = r := ⟨_, rfl⟩
    rw [hr]
    obtain h | h | h | h | h : k = 1 ∨ k = 2 ∨ k = 3 ∨ k = 4 ∨ k = 5 := by omega
    all_goals
      have hr' := hr
      simp [chkIn, h] at hr'
      have HR := Lib.hid hr'
      clear hr hr'
      first | rw [contV_1 _ h] at HC HV | rw [contV_2 _ h] at HC HV | rw [contV_3 _ h] at HC HV | rw [contV_4 _ h] at HC HV | rw [contV_5 _ h] at HC HV
      simp only at HC HV
      clear hk h
      go_enter Try.func24, Try.ntmps24
      go_wp2_with fail
      refine (HC.out _).mono ?_
      rintro e w1 ⟨rfl, x1⟩
      go_wp2_with fail
      have hA := x1
      have g0 := hA.cell (cell_at w #[.int .i64 k, .int .i64 n, .string s, .int .i64 a, .int .i64 b, .int .i64 c] 43 _ 0 _ rfl rfl)
      have g1 := hA.cell (cell_at w #[.int .i64 k, .int .i64 n, .string s, .int .i64 a, .int .i64 b, .int .i64 c] 43 _ 1 _ rfl rfl)
      have g2 := hA.cell (cell_at w #[.int .i64 k, .int .i64 n, .string s, .int .i64 a, .int .i64 b, .int .i64 c] 43 _ 2 _ rfl rfl)
      have g3 := hA.cell (cell_at w #[.int .i64 k, .int .i64 n, .string s, .int .i64 a, .int .i64 b, .int .i64 c] 43 _ 3 _ rfl rfl)
      have g4 := hA.cell (cell_at w #[.int .i64 k, .int .i64 n, .string s, .int .i64 a, .int .i64 b, .int .i64 c] 43 _ 4 _ rfl rfl)
      have g5 := hA.cell (cell_at w #[.int .i64 k, .int .i64 n, .string s, .int .i64 a, .int .i64 b, .int .i64 c] 43 _ 5 _ rfl rfl)
      go_region_held3 (fun w' => w'.cell? ⟨w.heap.size, 0, none⟩ = some (.int .i64 k) ∧ w'.cell? ⟨w.heap.size, 1, none⟩ = some (.int .i64 n) ∧ w'.cell? ⟨w.heap.size, 2, none⟩ = some (.string s) ∧ w'.cell? ⟨w.heap.size, 3, none⟩ = some (.int .i64 a) ∧ w'.cell? ⟨w.heap.size, 4, none⟩ = some (.int .i64 b) ∧ w'.cell? ⟨w.heap.size, 5, none⟩ = some (.int .i64 c))
        (first | exact ⟨g0, g1, g2, g3, g4, g5⟩ | exact ⟨x2.cell (by exact g0), x2.cell (by exact g1), x2.cell (by exact g2), x2.cell (by exact g3), x2.cell (by exact g4), x2.cell (by exact g5)⟩)
        (first | (go_at_call 50; (with_reducible refine (HV.out _).mono ?_); rintro e w2 ⟨rfl, x2⟩))
      all_goals
        cases q
        · go_wp2_with fail
          go_ret
          exact ⟨rfl, (((Ext.refl _).alloc _).trans x1).drew.trans x2⟩
        · go_wp2_with fail
          first
            | refine (truthCheck_any _ _).mono ?_
            | refine (wholeCheck_any _ _).mono ?_
            | refine (bitsCheck_any _ _).mono ?_
            | refine (textCheck_any _ _).mono ?_
            | refine (momentCheck_any _ _ _ _).mono ?_
          rintro e w3 ⟨he, x3⟩
          rw [HR.out] at he
          subst he
          go_wp2_with fail
          go_ret
          exact ⟨rfl, ((((Ext.refl _).alloc _).trans x1).drew.trans x2).trans x3⟩
  · have hk' : isKind v = false := by simpa using hk
    have hz : chk v = 10 := by
      simp only [isKind, Bool.and_eq_true, decide_eq_true_eq] at hk
      unfold chk
      rw [if_neg (by omega), if_neg (by omega), if_neg (by omega), if_neg (by omega), if_neg (by omega)]
    rw [hz]
    have HC := Lib.hid (fun w1 => contentOf_no v w1 hk')
    clear hk hk' hz
    obtain ⟨k, n, s, a, b, c⟩ := v
    go_enter Try.func24, Try.ntmps24
    go_wp2_with fail
    refine (HC.out _).mono ?_
    rintro e w1 ⟨rfl, x1⟩
    go_wp2_with fail
    go_ret
    exact ⟨rfl, ((Ext.refl _).alloc _).trans x1⟩
end Go.Proofs.Ytjaofbfppnmdjaa
