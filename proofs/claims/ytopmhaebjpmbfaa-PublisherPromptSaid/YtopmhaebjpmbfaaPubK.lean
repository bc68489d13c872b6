/- known of layer 13. -/
import Derived.Test.YtopmhaebjpmbfaaPubG
import Derived.Test.YtopmhaebjpmbfaaPubH
import Derived.Test.YtopmhaebjpmbfaaStr
namespace Go.Proofs.Ytopmhaebjpmbfaa
open Go.RowKit
attribute [local go_sem ↓] Go.wp_at_zero Go.wp_at_succ

/-! ### Nine steps of a publisher without values -/
def stK : Nat → PSt
  | 0 => newS 0 1 4 0
  | k + 1 => (stepS (stK k) [] 0 0 0).1
def msK (k : Nat) : List Msg := (stepS (stK k) [] 0 0 0).2
def sentK : Nat → List Int
  | 0 => []
  | k + 1 => if (msK k).length = 1 then sentK k ++ [48 + (k : Int)] else sentK k
def smallB (s : PSt) : Bool := decide (-1000 ≤ s.since) && decide (s.since ≤ 1000) && decide (-1000 ≤ s.state) && decide (s.state ≤ 1000) && decide (-1000 ≤ s.seq) && decide (s.seq ≤ 1000) && decide (s.vals = [])
theorem stK_small : ∀ k : Fin 10, smallB (stK k.1) = true := by decide +kernel
theorem msK_len : ∀ k : Fin 9, (msK k.1).length = 0 ∨ (msK k.1).length = 1 := by decide +kernel
theorem stK_end : (stK 9).state = 1 ∧ (stK 9).seq = 3 ∧ sentK 9 = [48, 49, 51, 55] := by decide +kernel
theorem stK_mod {k : Nat} (h : k < 10) : Mod (stK k) ∧ (stK k).vals = [] := by
  have := stK_small ⟨k, h⟩
  simp only [smallB, Bool.and_eq_true, decide_eq_true_eq] at this
  exact ⟨⟨by omega, by omega, by omega⟩, this.2⟩
theorem stK_step (k : Nat) : stepS (stK k) [] 0 0 0 = (stK (k + 1), msK k) := rfl
theorem str_snoc (l : List Int) (x : Int) : strOfNums l ++ strOfNums [x] = strOfNums (l ++ [x]) := by
  rw [bytes_eq]
  rw [Lib.strOfNums_toList, ByteArray.toList_eq, ByteArray.data_append, Array.toList_append, ← ByteArray.toList_eq, ← ByteArray.toList_eq, Lib.strOfNums_toList, Lib.strOfNums_toList]
  unfold Lib.bytesOf
  rw [List.map_append]
theorem sentK_len : ∀ k : Fin 10, (sentK k.1).length ≤ 9 := by decide +kernel
theorem str_size (l : List Int) : (strOfNums l).size = l.length := by simp [strOfNums, ByteArray.size]
theorem RF_empty {V : Nat → Prop} {w : World} {a : Option Addr} {c : Nat} (h : c ≤ maxLen) : RF V 6 valE w (.slice a 0 c) [] := ⟨a, c, rfl, Nat.zero_le _, h, fun h => absurd rfl h⟩
set_option maxRecDepth 100000 in
set_option maxHeartbeats 8000000 in
theorem known13_any (w : World) : Calls Try.prog 14 #[] w fun e w' => e = .returned (.bool true) ∧ Ext w w' := by
  have N := Lib.hid (fun w1 => new_any 0 1 4 0 w1 (by omega) (by omega) (by omega) (by omega) (by omega) (by omega) (by omega) (by omega))
  go_enter Try.func14, Try.ntmps14
  go_wp2_with fail
  refine (N.out _).mono ?_
  rintro e w1 ⟨rfl, x1⟩
  simp only [newS]
  go_wp2_with fail
  have HB := Lib.hid x1.size
  have B1 := Bk.new w1 #[.int .i64 0, .int .i64 1, .int .i64 4, .int .i64 0, .bool false, .int .i64 0, .int .i64 0, .int .i64 0, .int .i64 0, .int .i64 0, .int .i64 0, .int .i64 0, .slice none 0 0] 28 w1.heap.size rfl
  have X1 := x1.alloc (.cells #[.int .i64 0, .int .i64 1, .int .i64 4, .int .i64 0, .bool false, .int .i64 0, .int .i64 0, .int .i64 0, .int .i64 0, .int .i64 0, .int .i64 0, .int .i64 0, .slice none 0 0] 28)
  generalize w1.alloc (.cells #[.int .i64 0, .int .i64 1, .int .i64 4, .int .i64 0, .bool false, .int .i64 0, .int .i64 0, .int .i64 0, .int .i64 0, .int .i64 0, .int .i64 0, .int .i64 0, .slice none 0 0] 28) = W1 at *
  generalize w1.heap.size = B at *
  clear x1 N
  go_loopw [3, 4] (fun sent i wr => ∃ (k : Nat) (a : Option Addr) (c : Nat), k ≤ 9 ∧ i = .int .i64 k ∧ sent = .string (strOfNums (sentK k)) ∧ Bk wr B 28 (pubC (stK k) (.slice a 0 c)) ∧ c ≤ maxLen ∧ Ext w wr) (fun _ i _ => 9 - (intOf i).toNat)
  case atStart => exact ⟨0, none, 0, by omega, rfl, rfl, B1, by omega, X1⟩
  case round =>
    obtain ⟨k, a0, c0, hk, rfl, rfl, hB, hc0, hx⟩ := hrel
    clear B1 X1
    by_cases hlt : k < 9
    · obtain ⟨hmod, hv⟩ := stK_mod (show k < 10 by omega)
      obtain ⟨_, hv1⟩ := stK_mod (show k + 1 < 10 by omega)
      have HS := Lib.hid (fun w1 v (h : RF Any 6 valE w1 v []) => step_any (stK k) [] 0 0 0 v (.slice none 0 0) w1 (by rw [hv]; exact h) (RF.nil _ _ _ _) (by rw [hv]; simp) (by simp) hmod)
      simp only [stK_step] at HS
      have HM := Lib.hid (msK_len ⟨k, hlt⟩)
      have HK1 : Hid (sentK (k + 1) = if (msK k).length = 1 then sentK k ++ [48 + (k : Int)] else sentK k) := Lib.hid rfl
      clear hmod
      obtain ⟨z, hz⟩ : ∃ z, stK (k + 1) = z := ⟨_, rfl⟩
      rw [hz] at HS hv1
      have HZ := Lib.hid hz
      clear hz
      obtain ⟨y, hy⟩ : ∃ y, stK k = y := ⟨_, rfl⟩
      rw [hy] at hB HS hv
      clear hy
      obtain ⟨s1, s2, s3, s4, s5, s6, s7, s8, s9, s10, s11, s12, vs⟩ := y
      obtain ⟨n1, n2, n3, n4, n5, n6, n7, n8, n9, n10, n11, n12, ws⟩ := z
      simp only at hv hv1 hB
      subst hv hv1
      have q0 := hB.cell
      have HBk := Lib.hid hB
      clear hB
      generalize hms : msK k = ms at *
      have hki : (k : Int) < 9 := by omega
      clear hms
      have HM2 := HM.out
      clear HM
      generalize hml : ms.length = ml at *
      have HML := Lib.hid hml
      clear hml
      go_upto_region 7 with ((go_at_call 17; (with_reducible refine (HS.out _ _ (RF_empty hc0)).mono ?_); rintro e w2 ⟨a1, c1, a2, c2, he, x2, r2, m2⟩))
      rw [HML.out]
      have HB3 := Lib.hid (((HBk.out.ext x2)).alloc (.cells #[.int .i64 n1, .int .i64 n2, .int .i64 n3, .int .i64 n4, .bool n5, .int .i64 n6, .int .i64 n7, .int .i64 n8, .int .i64 n9, .int .i64 n10, .int .i64 n11, .int .i64 n12, .slice a1 0 c1] 28))
      have HT3 := Lib.hid (Bk.new w2 #[.int .i64 n1, .int .i64 n2, .int .i64 n3, .int .i64 n4, .bool n5, .int .i64 n6, .int .i64 n7, .int .i64 n8, .int .i64 n9, .int .i64 n10, .int .i64 n11, .int .i64 n12, .slice a1 0 c1] 28 w2.heap.size rfl)
      have HX3 := Lib.hid ((hx.trans x2).alloc (.cells #[.int .i64 n1, .int .i64 n2, .int .i64 n3, .int .i64 n4, .bool n5, .int .i64 n6, .int .i64 n7, .int .i64 n8, .int .i64 n9, .int .i64 n10, .int .i64 n11, .int .i64 n12, .slice a1 0 c1] 28))
      have hc1 : c1 ≤ maxLen := by obtain ⟨_, _, e, _, h, _⟩ := r2; simp only [Value.slice.injEq] at e; omega
      clear x2 r2 m2 q0 hx HS
      generalize w2.alloc (.cells #[.int .i64 n1, .int .i64 n2, .int .i64 n3, .int .i64 n4, .bool n5, .int .i64 n6, .int .i64 n7, .int .i64 n8, .int .i64 n9, .int .i64 n10, .int .i64 n11, .int .i64 n12, .slice a1 0 c1] 28) = w3 at *
      generalize w2.heap.size = b2 at *
      have q0 := HB3.out.cell
      have f0 := HB3.out.frozen
      have q1 := HT3.out.cell
      go_upto_region 8 with fail
      change Code.wp _ _ _ _ (put w3 B 0 [.int .i64 n1, .int .i64 n2, .int .i64 n3, .int .i64 n4, .bool n5, .int .i64 n6, .int .i64 n7, .int .i64 n8, .int .i64 n9, .int .i64 n10, .int .i64 n11, .int .i64 n12, .slice a1 0 c1])
      have C4 := Lib.hid (put_all (vs := [.int .i64 n1, .int .i64 n2, .int .i64 n3, .int .i64 n4, .bool n5, .int .i64 n6, .int .i64 n7, .int .i64 n8, .int .i64 n9, .int .i64 n10, .int .i64 n11, .int .i64 n12, .slice a1 0 c1]) HB3.out rfl)
      have HX4 := Lib.hid (put_ext (a := w) HB.out [.int .i64 n1, .int .i64 n2, .int .i64 n3, .int .i64 n4, .bool n5, .int .i64 n6, .int .i64 n7, .int .i64 n8, .int .i64 n9, .int .i64 n10, .int .i64 n11, .int .i64 n12, .slice a1 0 c1] 0 _ HX3.out)
      clear q0 f0 q1
      generalize put w3 B 0 [.int .i64 n1, .int .i64 n2, .int .i64 n3, .int .i64 n4, .bool n5, .int .i64 n6, .int .i64 n7, .int .i64 n8, .int .i64 n9, .int .i64 n10, .int .i64 n11, .int .i64 n12, .slice a1 0 c1] = w4 at *
      rcases HM2 with rfl | rfl
      · go_wp2_with fail
        go_roundw
        case rel => exact ⟨k + 1, a1, c1, by omega, by go_num, by rw [HK1.out]; rfl, by rw [HZ.out]; exact C4.out, hc1, HX4.out⟩
        case measure => simp [intOf]; omega
      · have hcv : (convert 89 9 (.slice (some ⟨w4.heap.size, 0, none⟩) 1 1)).run Try.prog (w4.alloc (.cells #[.int .u8 (48 + (k : Int))] 5)) = .ok (.string (strOfNums [48 + (k : Int)])) (w4.alloc (.cells #[.int .u8 (48 + (k : Int))] 5)) :=
          RB.conv (V := Any) (RB.of_own (base := w4.heap.size) (e := 5) (bs := [48 + (k : Int)]) (World.ownsRow_lit w4 #[.int .u8 (48 + (k : Int))] 1 (Nat.le_refl _) (by unfold maxLen; omega) rfl) (fun x hx => by simp only [List.mem_singleton] at hx; omega) (fun _ h => h.elim)) _ _ 5 Try.underlying89 Try.underlying5 (by kernel_rfl)
        have hsn := str_snoc (sentK k) (48 + (k : Int))
        have z1 : (strOfNums (sentK k)).size ≤ 100 := by have := sentK_len ⟨k, by omega⟩; rw [str_size]; simp only at this; omega
        have z2 : (strOfNums [48 + (k : Int)]).size ≤ 100 := by rw [str_size]; simp
        generalize strOfNums [48 + (k : Int)] = sx at *
        generalize hsy : strOfNums (sentK k ++ [48 + (k : Int)]) = sy at *
        have HSY := Lib.hid hsy
        clear hsy
        generalize strOfNums (sentK k) = so at *
        go_wp2_with fail
        go_roundw
        case rel => exact ⟨k + 1, a1, c1, by omega, by go_num, by rw [HK1.out, if_pos rfl, HSY.out], by rw [HZ.out]; exact C4.out.alloc _, hc1, HX4.out.alloc _⟩
        case measure => simp [intOf]; omega
    · obtain rfl : k = 9 := by omega
      obtain ⟨e1, e2, e3⟩ := stK_end
      rw [e3]
      have q5 := hB.cell 5
      have q6 := hB.cell 6
      simp only [pubC, e1, e2] at q5 q6
      have hs9 : strOfNums [48, 49, 51, 55] = ⟨#[48, 49, 51, 55]⟩ := by rw [bytes_eq]; decide +kernel
      rw [hs9]
      clear e1 e2 e3 hB hs9
      go_wp2_with fail
      go_ret
      exact ⟨rfl, hx⟩
end Go.Proofs.Ytopmhaebjpmbfaa
