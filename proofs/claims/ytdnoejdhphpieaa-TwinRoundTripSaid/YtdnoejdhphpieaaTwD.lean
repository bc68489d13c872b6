/- known of layer 16; how a state lies in a variable's cell. -/
import Derived.Test.YtdnoejdhphpieaaTwC
import Derived.Test.YtdnoejdhphpieaaWithin16
namespace Go.Proofs.Ytdnoejdhphpieaa
open Go.RowKit
attribute [local go_sem ↓] Go.wp_at_zero Go.wp_at_succ

theorem RF.store {α : Type} {V : Nat → Prop} {k : Nat} {enc : α → List Value} {w : World} {v : Value} {l : List α} (h : RF V k enc w v l) (B : Nat) (hB : V B) (u : Value) : RF V k enc (w.setCell ⟨B, 0, none⟩ u) v l := h.agree (agree_setCell (p := ⟨B, 0, none⟩) hB u)
theorem RF.any {α : Type} {V : Nat → Prop} {k : Nat} {enc : α → List Value} {w : World} {v : Value} {l : List α} (h : RF V k enc w v l) (hk : 0 < k) : RF Any k enc w v l := h.weak hk fun _ _ h => h.elim

set_option maxRecDepth 100000 in
set_option maxHeartbeats 4000000 in
theorem known16_any (w : World) : Calls Try.prog 10 #[] w fun e w' => e = .returned (.bool true) ∧ Ext w w' := by
  have A1 := Lib.hid (fun w1 v (h : RF Any 3 srcE w1 v []) => acceptP_any [] v 1 5 w1 h (by decide) (fun _ h => by cases h))
  have A2 := Lib.hid (fun w1 v (h : RF Any 3 srcE w1 v [(1, 5, 1)]) => acceptP_any [(1, 5, 1)] v 1 5 w1 h (by decide) (fun x h => by simp only [List.mem_singleton] at h; subst h; exact ⟨by decide, by decide, by decide⟩))
  have A3 := Lib.hid (fun w1 v (h : RF Any 3 srcE w1 v [(1, 5, 1)]) => acceptP_any [(1, 5, 1)] v 1 7 w1 h (by decide) (fun x h => by simp only [List.mem_singleton] at h; subst h; exact ⟨by decide, by decide, by decide⟩))
  have A4 := Lib.hid (fun w1 v (h : RF Any 3 srcE w1 v [(1, 7, 5)]) => acceptP_any [(1, 7, 5)] v 1 6 w1 h (by decide) (fun x h => by simp only [List.mem_singleton] at h; subst h; exact ⟨by decide, by decide, by decide⟩))
  have A5 := Lib.hid (fun w1 v (h : RF Any 3 srcE w1 v [(1, 7, 7)]) => acceptP_any [(1, 7, 7)] v 1 6 w1 h (by decide) (fun x h => by simp only [List.mem_singleton] at h; subst h; exact ⟨by decide, by decide, by decide⟩))
  rw [show accS [] 1 5 = ([(1, 5, 1)], true) by decide +kernel] at A1
  rw [show accS [(1, 5, 1)] 1 5 = ([(1, 5, 1)], false) by decide +kernel] at A2
  rw [show accS [(1, 5, 1)] 1 7 = ([(1, 7, 5)], true) by decide +kernel] at A3
  rw [show accS [(1, 7, 5)] 1 6 = ([(1, 7, 7)], true) by decide +kernel] at A4
  rw [show accS [(1, 7, 7)] 1 6 = ([(1, 7, 7)], false) by decide +kernel] at A5
  go_enter Try.func10, Try.ntmps10
  go_wp2_with fail
  refine (A1.out _ _ (RF.nil _ _ _ _)).mono ?_
  rintro e w1 ⟨a1, c1, he, x1, r1⟩
  simp only [List.length_cons, List.length_nil, Nat.zero_add] at he r1
  subst he
  have R1 := Lib.hid ((r1.any (by omega)).ext ((Ext.refl w1).alloc (.cells #[.slice a1 1 c1] 28)))
  clear r1
  go_wp2_with fail
  refine (A2.out _ _ R1.out).mono ?_
  rintro e w2 ⟨a2, c2, he, x2, r2⟩
  simp only [List.length_cons, List.length_nil, Nat.zero_add] at he r2
  subst he
  have hB : w1.heap.size < w2.heap.size := by have := x2.size; simp at this; omega
  have b2 : w2.cell? ⟨w1.heap.size, 0, none⟩ = some (.slice a1 1 c1) := x2.cell (cell_at _ _ _ _ 0 _ rfl rfl)
  have f2 : w2.frozen? ⟨w1.heap.size, 0, none⟩ = false := (x2.frozen (by simp)).trans (frozen_at _ _ _ _ 0 rfl)
  have R2 := Lib.hid ((r2.store w1.heap.size (by simp [Old]) (.slice a2 1 c2)).any (by omega))
  have X2 : Ext w (w2.setCell ⟨w1.heap.size, 0, none⟩ (.slice a2 1 c2)) := Ext.setCell ((x1.alloc _).trans x2) x1.size _
  clear r2
  go_wp2_with fail
  refine (A3.out _ _ R2.out).mono ?_
  rintro e w3 ⟨a3, c3, he, x3, r3⟩
  simp only [List.length_cons, List.length_nil, Nat.zero_add] at he r3
  subst he
  have hB3 : w1.heap.size < w3.heap.size := by have := x3.size; simp at this; omega
  have b3 : w3.cell? ⟨w1.heap.size, 0, none⟩ = some (.slice a2 1 c2) := x3.cell (World.cell?_setCell_same _ _ _ b2)
  have f3 : w3.frozen? ⟨w1.heap.size, 0, none⟩ = false := (x3.frozen (by simpa using hB)).trans (by simpa using f2)
  have R3 := Lib.hid ((r3.store w1.heap.size (by simpa [Old] using hB) (.slice a3 1 c3)).any (by omega))
  have X3 : Ext w (w3.setCell ⟨w1.heap.size, 0, none⟩ (.slice a3 1 c3)) := Ext.setCell (X2.trans x3) x1.size _
  clear r3 b2 f2
  go_wp2_with fail
  refine (A4.out _ _ R3.out).mono ?_
  rintro e w4 ⟨a4, c4, he, x4, r4⟩
  simp only [List.length_cons, List.length_nil, Nat.zero_add] at he r4
  subst he
  have hB4 : w1.heap.size < w4.heap.size := by have := x4.size; simp at this; omega
  have b4 : w4.cell? ⟨w1.heap.size, 0, none⟩ = some (.slice a3 1 c3) := x4.cell (World.cell?_setCell_same _ _ _ b3)
  have f4 : w4.frozen? ⟨w1.heap.size, 0, none⟩ = false := (x4.frozen (by simpa using hB3)).trans (by simpa using f3)
  have R4 := Lib.hid ((r4.store w1.heap.size (by simpa [Old] using hB3) (.slice a4 1 c4)).any (by omega))
  have X4 : Ext w (w4.setCell ⟨w1.heap.size, 0, none⟩ (.slice a4 1 c4)) := Ext.setCell (X3.trans x4) x1.size _
  clear r4 b3 f3
  go_wp2_with fail
  refine (A5.out _ _ R4.out).mono ?_
  rintro e w5 ⟨a5, c5, he, x5, r5⟩
  simp only [List.length_cons, List.length_nil, Nat.zero_add] at he r5
  subst he
  clear r5
  go_wp2_with fail
  go_ret
  exact ⟨rfl, (X4.trans x5).alloc _⟩
end Go.Proofs.Ytdnoejdhphpieaa
