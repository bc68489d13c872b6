/- known of layer 14. -/
import Derived.Test.YtopmhaebjpmbfaaSubE
namespace Go.Proofs.Ytopmhaebjpmbfaa
open Go.RowKit
attribute [local go_sem ↓] Go.wp_at_zero Go.wp_at_succ

def mK : Msg := ⟨0, 2, 0, 0, 0, 1, 0, false, 0, []⟩
def tK (n : Int) : SSt := ⟨0, 0, true, 1, 0, n, 0, false, []⟩
theorem tK_1 : takeS (newSub 0 0) mK = (tK 2, 1) := by decide +kernel
theorem tK_2 : tickS (tK 2) = tK 1 := by decide +kernel
theorem tK_3 : tickS (tK 1) = tK 0 := by decide +kernel
theorem tK_4 : takeS (tK 0) mK = (tK 2, 5) := by decide +kernel
theorem tK_5 : validS (tK 2) = true := by decide +kernel
theorem tK_6 : validS (tK 0) = false := by decide +kernel
theorem RF.cap {V : Nat → Prop} {w : World} {a : Option Addr} {n c : Nat} {l : List Val} (h : RF V 6 valE w (.slice a n c) l) : c ≤ maxLen := by
  obtain ⟨_, _, e, _, h, _⟩ := h
  simp only [Value.slice.injEq] at e
  omega
theorem RF_zero {V : Nat → Prop} {w : World} {a : Option Addr} {c : Nat} (h : c ≤ maxLen) : RF V 6 valE w (.slice a 0 c) [] := ⟨a, c, rfl, Nat.zero_le _, h, fun h => absurd rfl h⟩
set_option maxRecDepth 100000 in
set_option maxHeartbeats 4000000 in
theorem known14_any (w : World) : Calls Try.prog 23 #[] w fun e w' => e = .returned (.bool true) ∧ Ext w w' := by
  have HN := Lib.hid (fun w1 => newSub_any 0 0 w1)
  simp only [newSub] at HN
  have H1 := Lib.hid (fun w1 => take_any (newSub 0 0) mK (.slice none 0 0) (.slice none 0 0) w1 (RF.nil _ _ _ _) (RF.nil _ _ _ _) (by decide) (by decide))
  rw [tK_1] at H1
  simp only [newSub, mK, tK] at H1
  have HV2 := Lib.hid (fun v w1 => valid_any (tK 2) v w1)
  rw [tK_5] at HV2
  simp only [tK] at HV2
  have HV0 := Lib.hid (fun v w1 => valid_any (tK 0) v w1)
  rw [tK_6] at HV0
  simp only [tK] at HV0
  have HT2 := Lib.hid (fun v w1 h => tick_any (V := Any) (tK 2) v w1 h (by decide) (by decide))
  rw [tK_2] at HT2
  simp only [tK] at HT2
  have HT1 := Lib.hid (fun v w1 h => tick_any (V := Any) (tK 1) v w1 h (by decide) (by decide))
  rw [tK_3] at HT1
  simp only [tK] at HT1
  have H4 := Lib.hid (fun v w1 h => take_any (tK 0) mK v (.slice none 0 0) w1 h (RF.nil _ _ _ _) (by decide) (by decide))
  rw [tK_4] at H4
  simp only [mK, tK] at H4
  go_enter Try.func23, Try.ntmps23
  go_wp2_with fail
  refine (HN.out _).mono ?_
  rintro e w1 ⟨rfl, x1⟩
  go_wp2_with fail
  refine (H1.out _).mono ?_
  rintro e w2 ⟨a1, c1, he, x2, r2⟩
  simp only [List.length_nil] at he r2
  subst he
  have hc1 : c1 ≤ maxLen := r2.cap
  have X2 := x1.trans x2
  clear r2 x1 x2 HN H1
  have HL2 := X2.size
  go_upto_region 2 with fail
  have B3 := Lib.hid (Bk.new w2 #[.int .i64 0, .int .i64 0, .bool true, .int .i64 1, .int .i64 0, .int .i64 2, .int .i64 0, .bool false, .slice a1 0 c1] 50 w2.heap.size rfl)
  have X3 := X2.alloc (.cells #[.int .i64 0, .int .i64 0, .bool true, .int .i64 1, .int .i64 0, .int .i64 2, .int .i64 0, .bool false, .slice a1 0 c1] 50)
  generalize w2.alloc (.cells #[.int .i64 0, .int .i64 0, .bool true, .int .i64 1, .int .i64 0, .int .i64 2, .int .i64 0, .bool false, .slice a1 0 c1] 50) = w3 at *
  generalize w2.heap.size = b at *
  have q3 := B3.out.cell
  go_wp2_with fail
  refine (HV2.out _ _).mono ?_
  rintro e w4 ⟨rfl, x4⟩
  have B4 := Lib.hid (B3.out.ext x4)
  have X4 := X3.trans x4
  clear q3 X3 x4 B3
  have q4 := B4.out.cell
  go_wp2_with fail
  refine (HT2.out _ _ (RF_zero hc1)).mono ?_
  rintro e w5 ⟨a2, c2, he, x5, r5⟩
  simp only [List.length_nil] at he r5
  subst he
  have hc2 : c2 ≤ maxLen := r5.cap
  go_wp2_with fail
  refine (HT1.out _ _ (RF_zero hc2)).mono ?_
  rintro e w6 ⟨a3, c3, he, x6, r6⟩
  simp only [List.length_nil] at he r6
  subst he
  have hc3 : c3 ≤ maxLen := r6.cap
  have B6 := Lib.hid (B4.out.ext (x5.trans x6))
  have X6 := X4.trans (x5.trans x6)
  clear q4 X4 x5 x6 r5 r6 B4
  have q6 := B6.out.cell
  have f6 := B6.out.frozen
  go_upto_region 5 with fail
  change Code.wp _ _ _ _ (put w6 b 0 [.int .i64 0, .int .i64 0, .bool true, .int .i64 1, .int .i64 0, .int .i64 0, .int .i64 0, .bool false, .slice a3 0 c3])
  have C7 := Lib.hid (put_all (vs := [.int .i64 0, .int .i64 0, .bool true, .int .i64 1, .int .i64 0, .int .i64 0, .int .i64 0, .bool false, .slice a3 0 c3]) B6.out rfl)
  have X7 := put_ext (a := w) HL2 [.int .i64 0, .int .i64 0, .bool true, .int .i64 1, .int .i64 0, .int .i64 0, .int .i64 0, .bool false, .slice a3 0 c3] 0 _ X6
  clear q6 f6
  generalize put w6 b 0 [.int .i64 0, .int .i64 0, .bool true, .int .i64 1, .int .i64 0, .int .i64 0, .int .i64 0, .bool false, .slice a3 0 c3] = w7 at *
  have q7 := C7.out.cell
  go_wp2_with fail
  refine (H4.out _ _ (RF_zero hc3)).mono ?_
  rintro e w8 ⟨a4, c4, he, x8, r8⟩
  simp only [List.length_nil] at he r8
  subst he
  have B8 := Lib.hid (C7.out.ext x8)
  have X8 := X7.trans x8
  clear q7 r8 x8 X7
  have q8 := B8.out.cell
  go_wp2_with fail
  refine (HV0.out _ _).mono ?_
  rintro e w9 ⟨rfl, x9⟩
  go_wp2_with fail
  go_ret
  exact ⟨rfl, X8.trans x9⟩
end Go.Proofs.Ytopmhaebjpmbfaa
