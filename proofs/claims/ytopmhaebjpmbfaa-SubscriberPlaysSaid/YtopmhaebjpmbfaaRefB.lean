/- Contracts of New and Tick of the reference: layer 14. -/
import Derived.Test.YtopmhaebjpmbfaaRefA
import Derived.Test.YtopmhaebjpmbfaaSubA
import Derived.Deep.DeepCutAuto
namespace Go.Proofs.Ytopmhaebjpmbfaa
open Go.RowKit
attribute [local go_sem ↓] Go.wp_at_zero Go.wp_at_succ

theorem newSubR_any (p r : Int) (w : World) : Calls Try.prog 32 #[.int .i64 p, .int .i64 r] w fun e w' => e = .returned (subA (newSub p r) (.slice none 0 0)) ∧ Ext w w' := by
  have B0 := Lib.hid (Bk.new w #[.int .i64 0, .int .i64 0, .bool false, .int .i64 0, .int .i64 0, .int .i64 0, .int .i64 0, .bool false, .slice none 0 0] 67 w.heap.size rfl)
  have X0 := Lib.hid ((Ext.refl w).alloc (.cells #[.int .i64 0, .int .i64 0, .bool false, .int .i64 0, .int .i64 0, .int .i64 0, .int .i64 0, .bool false, .slice none 0 0] 67))
  go_enter Try.func32, Try.ntmps32
  go_upto_region 1 with fail
  generalize w.alloc (.cells #[.int .i64 0, .int .i64 0, .bool false, .int .i64 0, .int .i64 0, .int .i64 0, .int .i64 0, .bool false, .slice none 0 0] 67) = w1 at *
  have q0 : ∀ j, w1.cell? ⟨w.heap.size, j, none⟩ = (#[.int .i64 0, .int .i64 0, .bool false, .int .i64 0, .int .i64 0, .int .i64 0, .int .i64 0, .bool false, .slice none 0 0] : Array Value)[j]? := B0.out.cell
  have f0 := B0.out.frozen
  go_wp2_with fail
  change bodyPost _ _ _ _ _ (put w1 w.heap.size 0 [.int .i64 p, .int .i64 r, .bool false, .int .i64 0, .int .i64 0, .int .i64 0, .int .i64 0, .bool false, .slice none 0 0])
  have C3 := put_all (vs := [.int .i64 p, .int .i64 r, .bool false, .int .i64 0, .int .i64 0, .int .i64 0, .int .i64 0, .bool false, .slice none 0 0]) B0.out rfl
  have X3 := put_ext (a := w) (Nat.le_refl _) [.int .i64 p, .int .i64 r, .bool false, .int .i64 0, .int .i64 0, .int .i64 0, .int .i64 0, .bool false, .slice none 0 0] 0 _ X0.out
  generalize put w1 w.heap.size 0 [.int .i64 p, .int .i64 r, .bool false, .int .i64 0, .int .i64 0, .int .i64 0, .int .i64 0, .bool false, .slice none 0 0] = w3 at *
  have c3 := C3.cell
  exact bodyPost_ret (v := .agg #[.int .i64 p, .int .i64 r, .bool false, .int .i64 0, .int .i64 0, .int .i64 0, .int .i64 0, .bool false, .slice none 0 0]) (by simp [results, Try.results32, go_sem, c3]) rfl ⟨rfl, X3⟩

set_option maxRecDepth 100000 in
set_option maxHeartbeats 4000000 in
theorem tickR_any (s : SSt) (a : Option Addr) (n c : Nat) (w : World) (hlf : s.left ≤ 1000000) : Calls Try.prog 34 #[subA s (.slice a n c)] w fun e w' => e = .returned (subA (tickS s) (.slice a n c)) ∧ Ext w w' := by
  have HF : Hid (∀ w', Ext w w' → (Ending.returned (.agg #[.int .i64 s.pub, .int .i64 s.rev, .bool s.known, .int .i64 s.state, .int .i64 s.seq, .int .i64 (if 0 < s.left then s.left - 1 else s.left), .int .i64 s.lost, .bool s.test, .slice a n c]) = .returned (subA (tickS s) (.slice a n c)) ∧ Ext w w')) := fun w' he => by
    unfold tickS
    by_cases h0 : 0 < s.left
    · rw [if_pos h0, if_pos h0]; exact ⟨rfl, he⟩
    · rw [if_neg h0, if_neg h0]; exact ⟨rfl, he⟩
  generalize tickS s = ts at *
  obtain ⟨s1, s2, s3, s4, s5, s6, s7, s8, vs⟩ := s
  simp only at *
  have ew : 0 < s6 → IntKind.i64.wrap (s6 - 1) = s6 - 1 := fun _ => IntWalk.i64_in _ (by omega)
  clear hlf
  have B0 := Lib.hid ((Bk.new w #[.int .i64 s1, .int .i64 s2, .bool s3, .int .i64 s4, .int .i64 s5, .int .i64 s6, .int .i64 s7, .bool s8, .slice a n c] 67 w.heap.size rfl).alloc (.cells #[.int .i64 0, .int .i64 0, .bool false, .int .i64 0, .int .i64 0, .int .i64 0, .int .i64 0, .bool false, .slice none 0 0] 67))
  have B1 := Lib.hid (Bk.new (w.alloc (.cells #[.int .i64 s1, .int .i64 s2, .bool s3, .int .i64 s4, .int .i64 s5, .int .i64 s6, .int .i64 s7, .bool s8, .slice a n c] 67)) #[.int .i64 0, .int .i64 0, .bool false, .int .i64 0, .int .i64 0, .int .i64 0, .int .i64 0, .bool false, .slice none 0 0] 67 (w.heap.size + 1) (by simp))
  have X0 := Lib.hid (((Ext.refl w).alloc (.cells #[.int .i64 s1, .int .i64 s2, .bool s3, .int .i64 s4, .int .i64 s5, .int .i64 s6, .int .i64 s7, .bool s8, .slice a n c] 67)).alloc (.cells #[.int .i64 0, .int .i64 0, .bool false, .int .i64 0, .int .i64 0, .int .i64 0, .int .i64 0, .bool false, .slice none 0 0] 67))
  by_cases h0 : 0 < s6
  · have ew2 := ew h0
    have e0 : decide (0 < s6) = true := by simpa using h0
    rw [if_pos h0] at HF
    clear ew
    go_enter Try.func34, Try.ntmps34
    go_upto_region 1 with fail
    generalize (w.alloc (.cells #[.int .i64 s1, .int .i64 s2, .bool s3, .int .i64 s4, .int .i64 s5, .int .i64 s6, .int .i64 s7, .bool s8, .slice a n c] 67)).alloc (.cells #[.int .i64 0, .int .i64 0, .bool false, .int .i64 0, .int .i64 0, .int .i64 0, .int .i64 0, .bool false, .slice none 0 0] 67) = W at *
    have q0 : ∀ j, W.cell? ⟨w.heap.size, j, none⟩ = (#[.int .i64 s1, .int .i64 s2, .bool s3, .int .i64 s4, .int .i64 s5, .int .i64 s6, .int .i64 s7, .bool s8, .slice a n c] : Array Value)[j]? := B0.out.cell
    have f0 := B0.out.frozen
    go_upto_region 3 with fail
    have B2 := Lib.hid (show Bk (W.setCell ⟨w.heap.size, 5, none⟩ (.int .i64 (s6 - 1))) w.heap.size 67 #[.int .i64 s1, .int .i64 s2, .bool s3, .int .i64 s4, .int .i64 s5, .int .i64 (s6 - 1), .int .i64 s7, .bool s8, .slice a n c] from B0.out.setCell 5 (.int .i64 (s6 - 1)))
    have B3 := Lib.hid (B1.out.setOther (show w.heap.size ≠ w.heap.size + 1 by omega) 5 (.int .i64 (s6 - 1)))
    have X2 := Lib.hid (X0.out.setCell (p := ⟨w.heap.size, 5, none⟩) (Nat.le_refl _) (.int .i64 (s6 - 1)))
    clear q0 f0
    generalize W.setCell ⟨w.heap.size, 5, none⟩ (.int .i64 (s6 - 1)) = w2 at *
    have q0 : ∀ j, w2.cell? ⟨w.heap.size, j, none⟩ = (#[.int .i64 s1, .int .i64 s2, .bool s3, .int .i64 s4, .int .i64 s5, .int .i64 (s6 - 1), .int .i64 s7, .bool s8, .slice a n c] : Array Value)[j]? := B2.out.cell
    have q1 : ∀ j, w2.cell? ⟨w.heap.size + 1, j, none⟩ = (#[.int .i64 0, .int .i64 0, .bool false, .int .i64 0, .int .i64 0, .int .i64 0, .int .i64 0, .bool false, .slice none 0 0] : Array Value)[j]? := B3.out.cell
    have f1 := B3.out.frozen
    go_wp2_with fail
    change bodyPost _ _ _ _ _ (put w2 (w.heap.size + 1) 0 [.int .i64 s1, .int .i64 s2, .bool s3, .int .i64 s4, .int .i64 s5, .int .i64 (s6 - 1), .int .i64 s7, .bool s8, .slice a n c])
    have C3 := put_all (vs := [.int .i64 s1, .int .i64 s2, .bool s3, .int .i64 s4, .int .i64 s5, .int .i64 (s6 - 1), .int .i64 s7, .bool s8, .slice a n c]) B3.out rfl
    have X3 := put_ext (a := w) (Nat.le_succ _) [.int .i64 s1, .int .i64 s2, .bool s3, .int .i64 s4, .int .i64 s5, .int .i64 (s6 - 1), .int .i64 s7, .bool s8, .slice a n c] 0 _ X2.out
    generalize put w2 (w.heap.size + 1) 0 [.int .i64 s1, .int .i64 s2, .bool s3, .int .i64 s4, .int .i64 s5, .int .i64 (s6 - 1), .int .i64 s7, .bool s8, .slice a n c] = w3 at *
    have c3 := C3.cell
    exact bodyPost_ret (v := .agg #[.int .i64 s1, .int .i64 s2, .bool s3, .int .i64 s4, .int .i64 s5, .int .i64 (s6 - 1), .int .i64 s7, .bool s8, .slice a n c]) (by simp [results, Try.results34, go_sem, c3]) rfl (HF.out _ X3)
  · have e0 : decide (0 < s6) = false := by simpa using h0
    rw [if_neg h0] at HF
    clear ew
    go_enter Try.func34, Try.ntmps34
    go_upto_region 1 with fail
    generalize (w.alloc (.cells #[.int .i64 s1, .int .i64 s2, .bool s3, .int .i64 s4, .int .i64 s5, .int .i64 s6, .int .i64 s7, .bool s8, .slice a n c] 67)).alloc (.cells #[.int .i64 0, .int .i64 0, .bool false, .int .i64 0, .int .i64 0, .int .i64 0, .int .i64 0, .bool false, .slice none 0 0] 67) = W at *
    have q0 : ∀ j, W.cell? ⟨w.heap.size, j, none⟩ = (#[.int .i64 s1, .int .i64 s2, .bool s3, .int .i64 s4, .int .i64 s5, .int .i64 s6, .int .i64 s7, .bool s8, .slice a n c] : Array Value)[j]? := B0.out.cell
    have f0 := B0.out.frozen
    go_upto_region 3 with fail
    have B2 := B0
    have B3 := B1
    have X2 := X0
    clear q0 f0
    obtain ⟨w2, hw2⟩ : ∃ w2, w2 = W := ⟨_, rfl⟩
    subst hw2
    have q0 : ∀ j, w2.cell? ⟨w.heap.size, j, none⟩ = (#[.int .i64 s1, .int .i64 s2, .bool s3, .int .i64 s4, .int .i64 s5, .int .i64 s6, .int .i64 s7, .bool s8, .slice a n c] : Array Value)[j]? := B2.out.cell
    have q1 : ∀ j, w2.cell? ⟨w.heap.size + 1, j, none⟩ = (#[.int .i64 0, .int .i64 0, .bool false, .int .i64 0, .int .i64 0, .int .i64 0, .int .i64 0, .bool false, .slice none 0 0] : Array Value)[j]? := B3.out.cell
    have f1 := B3.out.frozen
    go_wp2_with fail
    change bodyPost _ _ _ _ _ (put w2 (w.heap.size + 1) 0 [.int .i64 s1, .int .i64 s2, .bool s3, .int .i64 s4, .int .i64 s5, .int .i64 s6, .int .i64 s7, .bool s8, .slice a n c])
    have C3 := put_all (vs := [.int .i64 s1, .int .i64 s2, .bool s3, .int .i64 s4, .int .i64 s5, .int .i64 s6, .int .i64 s7, .bool s8, .slice a n c]) B3.out rfl
    have X3 := put_ext (a := w) (Nat.le_succ _) [.int .i64 s1, .int .i64 s2, .bool s3, .int .i64 s4, .int .i64 s5, .int .i64 s6, .int .i64 s7, .bool s8, .slice a n c] 0 _ X2.out
    generalize put w2 (w.heap.size + 1) 0 [.int .i64 s1, .int .i64 s2, .bool s3, .int .i64 s4, .int .i64 s5, .int .i64 s6, .int .i64 s7, .bool s8, .slice a n c] = w3 at *
    have c3 := C3.cell
    exact bodyPost_ret (v := .agg #[.int .i64 s1, .int .i64 s2, .bool s3, .int .i64 s4, .int .i64 s5, .int .i64 s6, .int .i64 s7, .bool s8, .slice a n c]) (by simp [results, Try.results34, go_sem, c3]) rfl (HF.out _ X3)

end Go.Proofs.Ytopmhaebjpmbfaa
