/- The walk of the statement TwinOneNetwork. -/
import Derived.Test.YtdnoejdhphpieaaTwD
namespace Go.Proofs.Ytdnoejdhphpieaa
open Go.RowKit
attribute [local go_sem ↓] Go.wp_at_zero Go.wp_at_succ

/-- The state after k frames, the last of which had the number before that of frame k. -/
def OneAt (st : Int) (k : Nat) (L : List Src3) : Prop := (k = 0 ∧ L = []) ∨ (1 ≤ k ∧ ∃ s, s < 18446744073709551616 ∧ L = [(0, (st + (k : Int) - 1) % 65536, s)])
theorem one_step {st : Int} {k : Nat} {L : List Src3} (h : OneAt st k L) : L.length ≤ 1 ∧ (∀ x ∈ L, WfX x) ∧ ∃ s, accS L 0 ((st + k) % 65536) = ([(0, (st + (k : Int)) % 65536, s)], true) ∧ OneAt st (k + 1) [(0, (st + (k : Int)) % 65536, s)] := by
  have hq : 0 ≤ (st + (k : Int)) % 65536 ∧ (st + (k : Int)) % 65536 ≤ 65535 := by omega
  rcases h with ⟨rfl, rfl⟩ | ⟨hk, s, hs, rfl⟩
  · refine ⟨by simp, fun _ h => (by cases h), 1, ?_, .inr ⟨by omega, 1, by decide, ?_⟩⟩
    · rw [accS_new (by omega) rfl 0 rfl]; rfl
    · congr 3; omega
  · refine ⟨by simp, fun x h => ?_, ?_⟩
    · simp only [List.mem_singleton] at h
      subst h
      exact ⟨by simp only; omega, by simp only; omega, hs⟩
    · have hd : ((st + (k : Int)) % 65536 - (st + (k : Int) - 1) % 65536) % 65536 = 1 := by omega
      have hf : [((0 : Int), (st + (k : Int) - 1) % 65536, s)].findIdx? (fun x => decide (x.1 = 0)) = some 0 := by simp [List.findIdx?_cons]
      rw [accS_found (by omega) hf (x := (0, (st + (k : Int) - 1) % 65536, s)) rfl]
      have ht : takeS (0, (st + (k : Int) - 1) % 65536, s) ((st + (k : Int)) % 65536) = ((0, (st + (k : Int)) % 65536, shl64 s 1 ||| 1), true) := by
        unfold takeS
        simp only [hd]
        rfl
      rw [ht]
      refine ⟨shl64 s 1 ||| 1, rfl, .inr ⟨by omega, _, or_lt64 (shl64_lt s 1) (show (1 : Nat) < 18446744073709551616 by decide), ?_⟩⟩
      congr 3; omega

set_option maxRecDepth 100000 in
set_option maxHeartbeats 4000000 in
theorem one_walk (st n : Int) (w : World) : Calls Try.prog 4 #[.int .i64 st, .int .i64 n] w fun e w' => e = .returned (.bool true) ∧ Ext w w' := by
  have hk := Lib.hid (known16_any w)
  have W1 := Lib.hid (fun w1 => within16_any st 65536 w1 (by omega) (by omega))
  have W2 := Lib.hid (fun w1 => within16_any n 400 w1 (by omega) (by omega))
  have hs0 : 0 ≤ st % 65536 := by omega
  have hs1 : st % 65536 ≤ 65535 := by omega
  obtain ⟨K, hK⟩ : ∃ K : Nat, n % 400 = K := ⟨(n % 400).toNat, by omega⟩
  rw [hK] at W2
  have hK2 : K < 400 := by omega
  clear hK
  generalize st % 65536 = S at *
  have HS := Lib.hid (fun k L (h : OneAt S k L) => one_step h)
  have hs2 : S ≤ 100000 := by omega
  clear hs1
  go_enter Try.func4, Try.ntmps4
  go_wp2_with fail
  refine hk.out.mono ?_
  rintro e w1 ⟨rfl, x1⟩
  go_wp2_with fail
  refine (W1.out _).mono ?_
  rintro e w2 ⟨rfl, rfl⟩
  go_wp2_with fail
  have X2 : Ext w (w1.alloc (.cells #[.slice none 0 0] 28)) := x1.alloc _
  have hB1 := x1.size
  generalize hB : w1.heap.size = B at *
  go_loopw [6] (fun i wr => ∃ (k : Nat) (L : List Src3) (a : Option Addr) (c : Nat), k ≤ K ∧ i = .int .i64 k ∧ OneAt S k L ∧ wr.cell? ⟨B, 0, none⟩ = some (.slice a L.length c) ∧ wr.frozen? ⟨B, 0, none⟩ = false ∧ B < wr.heap.size ∧ RF (fun k => k = B) 3 srcE wr (.slice a L.length c) L ∧ Ext w wr) (fun i _ => K - (intOf i).toNat)
  case atStart => exact ⟨0, [], none, 0, Nat.zero_le _, rfl, .inl ⟨rfl, rfl⟩, cell_at _ _ _ _ 0 _ hB rfl, frozen_at _ _ _ _ 0 hB, by simp; omega, RF.nil _ _ _ _, X2⟩
  case round =>
    obtain ⟨k, L, a, c, hk1, rfl, hone, b0, f0, hBl, hrf, hx⟩ := hrel
    obtain ⟨hl1, hwf, s, hacc, hnext⟩ := HS.out k L hone
    have HA := Lib.hid (fun (h : RF Any 3 srcE wr (.slice a L.length c) L) => acceptP_any L _ 0 ((S + k) % 65536) wr h (by omega) hwf)
    rw [hacc] at HA
    have HRF := Lib.hid hrf
    have HNX := Lib.hid hnext
    clear hacc hnext hwf hone hrf
    generalize L.length = n at *
    by_cases hlt : k < K
    · have hki : (k : Int) < K := by omega
      go_wp2_with fail
      refine (W2.out _).mono ?_
      rintro e w3 ⟨rfl, rfl⟩
      go_wp2_with fail
      refine (HA.out (HRF.out.any (by omega))).mono ?_
      rintro e w4 ⟨a5, c5, he, x4, r5⟩
      simp only [List.length_cons, List.length_nil, Nat.zero_add] at he r5
      subst he
      obtain ⟨b5, o5, c6, hv, g0, g1, g2⟩ := src_get r5 (i := 0) rfl
      simp only [Nat.zero_mul, Nat.add_zero, List.length_cons, List.length_nil, Nat.zero_add, Value.slice.injEq] at hv g0 g1 g2
      obtain ⟨rfl, -, rfl⟩ := hv
      have b4 : w4.cell? ⟨B, 0, none⟩ = some (.slice a n c) := x4.cell b0
      have f4 : w4.frozen? ⟨B, 0, none⟩ = false := (x4.frozen hBl).trans f0
      have hBl4 : B < w4.heap.size := x4.lt hBl
      have lb5 : b5 < w4.heap.size := World.block_lt_of_cell? w4 _ g0
      have R5 := Lib.hid r5
      clear r5 g0 g2
      have hB4 : ¬ (w4.heap.size = B) := by omega
      have hB5 : ¬ (B = w4.heap.size) := by omega
      go_wp2_with fail
      refine ⟨⟨k + 1, _, _, c5, by omega, by go_num, HNX.out, cell_keep _ _ (World.cell?_setCell_same _ _ _ b4), ?_, ?_, ?_, ?_⟩, by simp [intOf]; omega⟩
      · exact (((Ext.refl _).alloc _).frozen (by simpa using hBl4)).trans (by simpa using f4)
      · simp; omega
      · exact ((R5.out.store B hBl _).weak (by omega) (fun k _ h => by have : k = B := h; rw [this]; exact hBl)).ext ((Ext.refl _).alloc _)
      · exact ((hx.trans x4).setCell hB1 _).alloc _
    · have hki : ¬ ((k : Int) < K) := by omega
      go_wp2_with fail
      refine (W2.out _).mono ?_
      rintro e w3 ⟨rfl, rfl⟩
      go_wp2_with fail
      go_ret
      exact ⟨rfl, hx⟩
end Go.Proofs.Ytdnoejdhphpieaa
