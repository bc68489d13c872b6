/- The walk of the statement TwinOpens. -/
import Derived.Test.YtdnoejdhphpieaaTwG
namespace Go.Proofs.Ytdnoejdhphpieaa
open Go.RowKit
attribute [local go_sem ↓] Go.wp_at_zero Go.wp_at_succ

theorem eight {α : Type} {l : List α} (h : l.length = 8) : ∃ t0 t1 t2 t3 t4 t5 t6 t7, l = [t0, t1, t2, t3, t4, t5, t6, t7] := by
  rcases l with _ | ⟨t0, _ | ⟨t1, _ | ⟨t2, _ | ⟨t3, _ | ⟨t4, _ | ⟨t5, _ | ⟨t6, _ | ⟨t7, _ | ⟨t8, l⟩⟩⟩⟩⟩⟩⟩⟩⟩ <;> first | exact ⟨_, _, _, _, _, _, _, _, rfl⟩ | (simp at h) | (simp at h; omega)
theorem opn_short {bs : List Int} (h : bs.length < 8) : opn bs = (cp0, 13) := by
  unfold opn
  rw [show bs.length - 8 = 0 by omega, List.drop_zero]
  split
  · simp at h
  · rfl
theorem opn_app {p : List Int} {t0 t1 t2 t3 t4 t5 t6 t7 : Int} : opn (p ++ [t0, t1, t2, t3, t4, t5, t6, t7]) = opnT p t0 t1 t2 t3 t4 t5 t6 t7 := by
  unfold opn
  have e : (p ++ [t0, t1, t2, t3, t4, t5, t6, t7]).length - 8 = p.length := by simp
  rw [e, List.drop_left, List.take_left]
theorem open_any (F : FuncId) (hs : ∀ (a : Option Addr) (n c : Nat) (w : World), n < 8 → Calls Try.prog F #[.slice a n c] w (RetCp w (cp0, 13)))
    (hl : ∀ (p : List Int) (t0 t1 t2 t3 t4 t5 t6 t7 : Int) (b off m c : Nat) (w : World), p.length = m → m ≤ 9223372036854775799 → m + 8 ≤ c → c ≤ maxLen → RB Any w (.slice (some ⟨b, off, none⟩) (m + 8) c) (p ++ [t0, t1, t2, t3, t4, t5, t6, t7]) → Calls Try.prog F #[.slice (some ⟨b, off, none⟩) (m + 8) c] w (RetCp w (opnT p t0 t1 t2 t3 t4 t5 t6 t7)))
    (bs : List Int) (v : Value) (w : World) (h : RB Any w v bs) : Calls Try.prog F #[v] w (RetCp w (opn bs)) := by
  obtain ⟨a, c, rfl, h1, h2⟩ := h.form
  by_cases h8 : bs.length < 8
  · rw [opn_short h8]
    exact hs _ _ _ _ h8
  · obtain ⟨b, off, c', hv, _, _, _, _⟩ := h.at_ (by omega)
    simp only [Value.slice.injEq] at hv
    obtain ⟨rfl, -, rfl⟩ := hv
    obtain ⟨t0, t1, t2, t3, t4, t5, t6, t7, ht⟩ := eight (l := bs.drop (bs.length - 8)) (by simp; omega)
    have e : bs.take (bs.length - 8) ++ [t0, t1, t2, t3, t4, t5, t6, t7] = bs := by rw [← ht]; exact List.take_append_drop _ _
    have hn : bs.length = bs.length - 8 + 8 := by omega
    have hlen : (bs.take (bs.length - 8)).length = bs.length - 8 := by simp
    generalize bs.take (bs.length - 8) = p at *
    generalize bs.length - 8 = m at *
    rw [hn] at h h1 ⊢
    rw [← e] at h ⊢
    rw [opn_app]
    exact hl p _ _ _ _ _ _ _ _ b off m c w hlen (by unfold maxLen at h2; omega) h1 h2 h
theorem openP_any (bs : List Int) (v : Value) (w : World) (h : RB Any w v bs) : Calls Try.prog 19 #[v] w (RetCp w (opn bs)) := open_any 19 openP_short openP_long bs v w h
theorem openR_any (bs : List Int) (v : Value) (w : World) (h : RB Any w v bs) : Calls Try.prog 20 #[v] w (RetCp w (opn bs)) := open_any 20 openR_short openR_long bs v w h

set_option maxRecDepth 100000 in
set_option maxHeartbeats 4000000 in
theorem opens_walk (bs : List Int) (v : Value) (w : World) (h : RB Any w v bs) : Calls Try.prog 8 #[v] w fun e w' => e = .returned (.bool true) ∧ Ext w w' := by
  have hk := Lib.hid (known16_any w)
  have OP := Lib.hid (fun w1 (he : Ext w w1) => openP_any bs v w1 (h.ext he))
  have OR := Lib.hid (fun w1 (he : Ext w w1) => openR_any bs v w1 (h.ext he))
  obtain ⟨⟨⟨s1, s2, s3, p⟩, er⟩, hz⟩ : ∃ z, opn bs = z := ⟨_, rfl⟩
  rw [hz] at OP OR
  clear hz
  go_enter Try.func8, Try.ntmps8
  go_wp2_with fail
  refine hk.out.mono ?_
  rintro e w1 ⟨rfl, x1⟩
  go_wp2_with fail
  refine (OP.out _ x1).mono ?_
  rintro e w2 ⟨a2, c2, rfl, x2, r2⟩
  simp only at r2
  have X2 := x1.trans x2
  have HR2 := Lib.hid r2
  clear r2
  generalize hn : p.length = n at *
  go_wp2_with fail
  refine (OR.out _ (X2.alloc _)).mono ?_
  rintro e w3 ⟨a3, c3, rfl, x3, r3⟩
  simp only at r3
  rw [hn] at r3
  have d0 := x3.cell (cell_at w2 #[.int .i64 s1, .int .i64 s2, .int .i64 s3, .slice a2 n c2] 58 _ 0 _ rfl rfl)
  have d1 := x3.cell (cell_at w2 #[.int .i64 s1, .int .i64 s2, .int .i64 s3, .slice a2 n c2] 58 _ 1 _ rfl rfl)
  have d2 := x3.cell (cell_at w2 #[.int .i64 s1, .int .i64 s2, .int .i64 s3, .slice a2 n c2] 58 _ 2 _ rfl rfl)
  have d3 := x3.cell (cell_at w2 #[.int .i64 s1, .int .i64 s2, .int .i64 s3, .slice a2 n c2] 58 _ 3 _ rfl rfl)
  have X3 := (X2.alloc _).trans x3
  rw [hn]
  have v2 := (((HR2.out.ext ((Ext.refl _).alloc _)).ext x3).ext ((Ext.refl _).alloc (.cells #[.int .i64 s1, .int .i64 s2, .int .i64 s3, .slice a3 n c3] 61))).conv (P := Try.prog) 51 9 5 Try.underlying51 Try.underlying5 (by kernel_rfl)
  have v3 := (r3.ext ((Ext.refl _).alloc (.cells #[.int .i64 s1, .int .i64 s2, .int .i64 s3, .slice a3 n c3] 61))).conv (P := Try.prog) 51 9 5 Try.underlying51 Try.underlying5 (by kernel_rfl)
  generalize strOfNums p = str at *
  clear HR2 r3 OP OR
  have hz : w2.heap.size < w3.heap.size := by have := x3.size; simp at this; omega
  go_wp2_with fail
  go_ret
  exact ⟨rfl, X3.alloc _⟩
end Go.Proofs.Ytdnoejdhphpieaa
