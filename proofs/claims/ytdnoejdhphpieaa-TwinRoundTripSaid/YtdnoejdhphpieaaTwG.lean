/- Open of the reference: layer 16. -/
import Derived.Test.YtdnoejdhphpieaaTwF
namespace Go.Proofs.Ytdnoejdhphpieaa
open Go.RowKit
attribute [local go_sem ↓] Go.wp_at_zero Go.wp_at_succ

theorem cell_drewK {w : World} {p : Addr} {v : Value} (h : w.cell? p = some v) : w.drew.cell? p = some v := h
theorem ext_of_drewN {a b : World} {q : Nat} (h : b = a.drewN q) : Ext a b := by rw [h]; exact (Ext.refl a).drewN q
theorem own_litB (w : World) (base : Nat) (hb : base ≤ w.heap.size) : (w.alloc (.cells #[] 5)).ownsRow base 5 1 (.slice (some ⟨w.heap.size, 0, none⟩) 0 0) 0 [] :=
  World.ownsRow_lit w #[] 0 hb (by unfold maxLen; omega) rfl

set_option maxRecDepth 100000 in
set_option maxHeartbeats 4000000 in
theorem openR_short (a : Option Addr) (n c : Nat) (w : World) (hn : n < 8) : Calls Try.prog 20 #[.slice a n c] w (RetCp w (cp0, 13)) := by
  have hn2 : (n : Int) - 8 < 0 := by omega
  have HE := Lib.hid (fun w' (h : Ext w w') => RetCp.err 13 h)
  go_enter Try.func20, Try.ntmps20
  go_wp2
  refine bodyPost_ret (v := .tuple #[.agg #[.int .i64 0, .int .i64 0, .int .i64 0, .slice none 0 0], .int .i64 13]) (by simp [results, Try.results20, go_sem]) rfl (HE.out _ ((Ext.refl _).alloc _))

set_option maxRecDepth 100000 in
set_option maxHeartbeats 8000000 in
theorem openR_long (p : List Int) (t0 t1 t2 t3 t4 t5 t6 t7 : Int) (b off m c : Nat) (w : World) (hm : p.length = m) (hmm : m ≤ 9223372036854775799) (hc : m + 8 ≤ c) (hc2 : c ≤ maxLen) (h : RB Any w (.slice (some ⟨b, off, none⟩) (m + 8) c) (p ++ [t0, t1, t2, t3, t4, t5, t6, t7])) :
    Calls Try.prog 20 #[.slice (some ⟨b, off, none⟩) (m + 8) c] w (RetCp w (opnT p t0 t1 t2 t3 t4 t5 t6 t7)) := by
  obtain ⟨i0, hi0, hz0, hz1, hz2⟩ := info_parts info_byte16
  have hc3 : c ≤ 9223372036854775807 := by unfold maxLen at hc2; omega
  have hcell : ∀ j u, [t0, t1, t2, t3, t4, t5, t6, t7][j]? = some u → w.cell? ⟨b, off + m + j, none⟩ = some (.int .u8 u) ∧ 0 ≤ u ∧ u ≤ 255 := fun j u hu => by
    obtain ⟨b', off', c', hv, _, _, _, hcc⟩ := h.at_ (by simp)
    simp only [Value.slice.injEq, Option.some.injEq, Addr.mk.injEq, and_true] at hv
    obtain ⟨⟨rfl, rfl⟩, -, rfl⟩ := hv
    have hj := get_lt hu
    have h1 := hcc (m + j) (by simp at hj ⊢; omega)
    have e : (p ++ [t0, t1, t2, t3, t4, t5, t6, t7])[m + j]'(by simp at hj ⊢; omega) = u := by
      rw [List.getElem_append_right (by omega)]
      simp only [hm, Nat.add_sub_cancel_left]
      exact (List.getElem?_eq_some_iff.1 hu).2
    rw [e] at h1
    refine ⟨by rw [← h1]; congr 2; omega, h.byt u ?_⟩
    rw [← e]
    exact List.getElem_mem _
  obtain ⟨g0, r0⟩ := hcell 0 t0 rfl
  obtain ⟨g1, r1⟩ := hcell 1 t1 rfl
  obtain ⟨g2, r2⟩ := hcell 2 t2 rfl
  obtain ⟨g3, r3⟩ := hcell 3 t3 rfl
  obtain ⟨g4, r4⟩ := hcell 4 t4 rfl
  obtain ⟨g5, r5⟩ := hcell 5 t5 rfl
  obtain ⟨g6, r6⟩ := hcell 6 t6 rfl
  obtain ⟨g7, r7⟩ := hcell 7 t7 rfl
  have P1 := Lib.hid (fun w1 c' (h1 : Ext w w1) => pair_cells 35 (.inr rfl) t6 t7 b (off + m + 6) 2 c' w1 r6 r7 (h1.cell g6) (h1.cell g7) (Nat.le_refl _))
  have P2 := Lib.hid (fun w1 c' n (hn : 2 ≤ n) (h1 : Ext w w1) => pair_cells 35 (.inr rfl) t0 t1 b (off + m) n c' w1 r0 r1 (h1.cell g0) (h1.cell g1) hn)
  have P3 := Lib.hid (fun w1 c' n (hn : 2 ≤ n) (h1 : Ext w w1) => pair_cells 35 (.inr rfl) t2 t3 b (off + m + 2) n c' w1 r2 r3 (h1.cell g2) (h1.cell g3) hn)
  have lb : b < w.heap.size := World.block_lt_of_cell? w _ g0
  have HPP : Hid (∀ w', Ext w w' → Src w' 1 (some ⟨b, off, none⟩) m (p.map (Value.int .u8))) := fun w' he => by
    have h1 := (h.ext he).part 0 m m (by simp; omega) (Nat.le_refl _) (by omega)
    rw [Nat.add_zero, List.drop_zero, ← hm, List.take_left] at h1
    have h2 := Src.bytes h1
    rw [hm] at h2
    exact h2
  have HSL : Hid (∀ W, (Instr.slice 51 (.slice (some ⟨b, off, none⟩) (m + 8) c) none (some (.int .i64 m)) none).run Try.prog W = .ok (.slice (some ⟨b, off, none⟩) m c) W) := fun W => by
    rw [run_slice_h W _ _ _ _ (by kernel_rfl) _ _ (by omega) (by omega)]
    have hs : (sizeOf (Try.prog.elem 51)).run Try.prog W = .ok 1 W := by kernel_rfl
    rw [hs]
    simp only [Result.andThen, sliced_cut]
    rw [show (m : Int).toNat = m by omega, show m - 0 = m by omega]
    unfold cutA
    simp
  have HBY := Lib.hid (show Byt p from fun y hy => h.byt y (by simp [hy]))
  have HE := Lib.hid (fun er w' (h : Ext w w') => RetCp.err er h)
  obtain ⟨z, hz⟩ : ∃ z, opnT p t0 t1 t2 t3 t4 t5 t6 t7 = z := ⟨_, rfl⟩
  rw [hz]
  unfold opnT at hz
  rw [hm] at hz
  have hmi : (m : Int) ≤ 9223372036854775799 := by omega
  clear hcell g0 g1 g2 g3 g6 g7 r0 r1 r2 r3 r6 r7
  have hc8 : 8 ≤ c - m := by omega
  have HO0 := Lib.hid (fun (W : World) (base : Nat) (hB : base ≤ W.heap.size) => own_litB W base hB)
  have HSR : Hid (∀ W, (Instr.slice 51 (.slice (some ⟨b, off, none⟩) (m + 8) c) (some (.int .i64 m)) none none).run Try.prog W = .ok (.slice (some ⟨b, off + m, none⟩) 8 (c - m)) W) := fun W => by
    rw [run_slice_l W _ _ _ _ (by kernel_rfl) _ _ (by omega) (by omega)]
    have hs : (sizeOf (Try.prog.elem 51)).run Try.prog W = .ok 1 W := by kernel_rfl
    rw [hs]
    simp only [Result.andThen, sliced_cut]
    rw [show (m : Int).toNat = m by omega, show m + 8 - m = 8 by omega]
    unfold cutA
    rw [if_neg (by omega)]
  have hsr : ∀ W, (Instr.slice 51 (.slice (some ⟨b, off, none⟩) (m + 8) c) (some (.int .i64 m)) none none).run Try.prog W = .ok (.slice (some ⟨b, off + m, none⟩) 8 (c - m)) W := fun W => HSR.out W
  have hcm : c - m ≠ 0 := by omega
  obtain ⟨cm, hcm2⟩ : ∃ cm, c - m = cm := ⟨_, rfl⟩
  rw [hcm2] at hsr hcm hc8
  have hcmb : cm ≤ 9223372036854775807 := by omega
  clear hcm2 HSR
  obtain ⟨xb, hb0⟩ : ∃ xb, (t4 != 160) = xb := ⟨_, rfl⟩
  obtain ⟨yb, hb1⟩ : ∃ yb, (t4 != 161) = yb := ⟨_, rfl⟩
  have hnb : isNet t4 = !(xb && yb) := by rw [← hb0, ← hb1]; unfold isNet; by_cases h0 : t4 = 160 <;> by_cases h1 : t4 = 161 <;> simp [h0, h1]
  have hnt : (xb && yb) = false → netOf t4 = t4 - 160 := by
    intro hh
    unfold netOf
    split
    · omega
    · have : t4 = 160 := by
        rw [← hb0, ← hb1] at hh
        by_cases h0 : t4 = 160
        · exact h0
        · rename_i h1
          have e0 : (t4 != 160) = true := by simpa using h0
          have e1 : (t4 != 161) = true := by simpa using h1
          rw [e0, e1] at hh
          cases hh
      omega
  obtain ⟨r41, r42⟩ := r4
  go_enter Try.func20, Try.ntmps20
  have X0 : Ext w (w.alloc (.cells #[.int .i64 0, .int .i64 0, .int .i64 0, .slice none 0 0] 61)) := (Ext.refl w).alloc _
  have HX0 := Lib.hid X0
  have g4' := X0.cell g4
  have g5' := X0.cell g5
  clear g4 g5
  by_cases hbad : isNet t4 = false ∨ t5 ≠ 0
  · have HZ := Lib.hid (show z = (cp0, 15) by rw [← hz, if_pos hbad])
    clear hz
    have hb5 : xb = false ∨ yb = false → (t5 != 0) = true := by
      intro hxy
      rcases hbad with h1 | h1
      · rw [h1] at hnb; rcases hxy with rfl | rfl <;> simp at hnb
      · simpa using h1
    clear hnb hnt hbad X0
    cases xb
    · replace hb5 := hb5 (.inl rfl)
      go_wp2_with fail
      rw [HZ.out]
      refine bodyPost_ret (v := .tuple #[.agg #[.int .i64 0, .int .i64 0, .int .i64 0, .slice none 0 0], .int .i64 15]) (by simp [results, Try.results20, go_sem]) rfl (HE.out _ _ ?_)
      repeat (first | exact HX0.out | refine Ext.setCell ?_ (by simp) _)
    · cases yb
      · replace hb5 := hb5 (.inr rfl)
        go_wp2_with fail
        rw [HZ.out]
        refine bodyPost_ret (v := .tuple #[.agg #[.int .i64 0, .int .i64 0, .int .i64 0, .slice none 0 0], .int .i64 15]) (by simp [results, Try.results20, go_sem]) rfl (HE.out _ _ ?_)
        repeat (first | exact HX0.out | refine Ext.setCell ?_ (by simp) _)
      · clear hb5
        go_wp2_with fail
        rw [HZ.out]
        refine bodyPost_ret (v := .tuple #[.agg #[.int .i64 0, .int .i64 0, .int .i64 0, .slice none 0 0], .int .i64 15]) (by simp [results, Try.results20, go_sem]) rfl (HE.out _ _ ?_)
        repeat (first | exact HX0.out | refine Ext.setCell ?_ (by simp) _)
  · rw [if_neg hbad] at hz
    have hb5 : (t5 != 0) = false := by by_cases h5 : t5 = 0; simp [h5]; exact absurd (.inr h5) hbad
    have hxy : (xb && yb) = false := by cases hq : (xb && yb); rfl; exact absurd (.inl (by rw [hnb, hq]; rfl)) hbad
    have hnt' := hnt hxy
    rw [hnt'] at hz
    clear hnb hnt hbad hnt' X0
    have hcases : xb = false ∨ (xb = true ∧ yb = false) := by cases xb <;> cases yb <;> simp at hxy ⊢
    clear hxy
    rcases hcases with rfl | ⟨rfl, rfl⟩
    all_goals
      go_upto_region 7 with fail
      have E0 := HX0.out
      have f0 : (w.alloc (.cells #[.int .i64 0, .int .i64 0, .int .i64 0, .slice none 0 0] 61)).frozen? ⟨w.heap.size, 0, none⟩ = false := frozen_at _ _ _ _ 0 rfl
      have f1 : (w.alloc (.cells #[.int .i64 0, .int .i64 0, .int .i64 0, .slice none 0 0] 61)).frozen? ⟨w.heap.size, 1, none⟩ = false := frozen_at _ _ _ _ 1 rfl
      have f2 : (w.alloc (.cells #[.int .i64 0, .int .i64 0, .int .i64 0, .slice none 0 0] 61)).frozen? ⟨w.heap.size, 2, none⟩ = false := frozen_at _ _ _ _ 2 rfl
      have f3 : (w.alloc (.cells #[.int .i64 0, .int .i64 0, .int .i64 0, .slice none 0 0] 61)).frozen? ⟨w.heap.size, 3, none⟩ = false := frozen_at _ _ _ _ 3 rfl
      have c0 : (w.alloc (.cells #[.int .i64 0, .int .i64 0, .int .i64 0, .slice none 0 0] 61)).cell? ⟨w.heap.size, 0, none⟩ = some (.int .i64 0) := cell_at _ _ _ _ 0 _ rfl rfl
      have c1 : (w.alloc (.cells #[.int .i64 0, .int .i64 0, .int .i64 0, .slice none 0 0] 61)).cell? ⟨w.heap.size, 1, none⟩ = some (.int .i64 0) := cell_at _ _ _ _ 1 _ rfl rfl
      have c2 : (w.alloc (.cells #[.int .i64 0, .int .i64 0, .int .i64 0, .slice none 0 0] 61)).cell? ⟨w.heap.size, 2, none⟩ = some (.int .i64 0) := cell_at _ _ _ _ 2 _ rfl rfl
      have c3 : (w.alloc (.cells #[.int .i64 0, .int .i64 0, .int .i64 0, .slice none 0 0] 61)).cell? ⟨w.heap.size, 3, none⟩ = some (.slice none 0 0) := cell_at _ _ _ _ 3 _ rfl rfl
      have lw1 : w.heap.size < (w.alloc (.cells #[.int .i64 0, .int .i64 0, .int .i64 0, .slice none 0 0] 61)).heap.size := by simp
      clear g5'
      generalize w.alloc (.cells #[.int .i64 0, .int .i64 0, .int .i64 0, .slice none 0 0] 61) = wc at *
      go_wp2_with fail
      refine (P1.out _ _ E0).mono ?_
      rintro e w2 ⟨rfl, q, hq⟩
      have E2 : Ext wc w2 := by rw [hq]; exact (Ext.refl wc).drewN q
      clear hq
      have X1 := E0.trans E2
      replace f0 := (E2.frozen lw1).trans f0
      replace f1 := (E2.frozen lw1).trans f1
      replace f2 := (E2.frozen lw1).trans f2
      replace f3 := (E2.frozen lw1).trans f3
      replace c0 := E2.cell c0
      replace c1 := E2.cell c1
      replace c2 := E2.cell c2
      replace c3 := E2.cell c3
      have g42 := E2.cell g4'
      have lw2 : w.heap.size < w2.heap.size := E2.lt lw1
      clear g4' lw1 hsr HX0
      by_cases h6 : t6 * 256 + t7 = m
      · have hb6 : (t6 * 256 + t7 != (m : Int)) = false := by simpa using h6
        by_cases hm15 : 1500 < m
        · have hm16 : (1500 : Int) < m := by omega
          have HZ := Lib.hid (show z = (cp0, 4) by rw [← hz, if_pos (.inr hm15)])
          clear hz h6
          go_wp2_with fail
          rw [HZ.out]
          refine bodyPost_ret (v := .tuple #[.agg #[.int .i64 0, .int .i64 0, .int .i64 0, .slice none 0 0], .int .i64 4]) (by simp [results, Try.results20, go_sem, c0, c1, c2, c3]) rfl (HE.out _ _ ?_)
          repeat (first | exact X1 | refine Ext.setCell ?_ (by simp) _)
        · have hm16 : ¬ (1500 : Int) < m := by omega
          have HZ := Lib.hid (show z = ((t0 * 256 + t1, t2 * 256 + t3, t4 - 160, p), 0) by rw [← hz, if_neg]; intro hh; rcases hh with hh | hh; exact hh h6; exact hm15 hh)
          clear hz h6
          have KEEP : Hid (∀ w', Ext w2 w' → (w'.cell? ⟨w.heap.size, 0, none⟩ = some (.int .i64 0) ∧ w'.cell? ⟨w.heap.size, 1, none⟩ = some (.int .i64 0) ∧ w'.cell? ⟨w.heap.size, 2, none⟩ = some (.int .i64 0) ∧ w'.cell? ⟨w.heap.size, 3, none⟩ = some (.slice none 0 0)) ∧ (w'.frozen? ⟨w.heap.size, 0, none⟩ = false ∧ w'.frozen? ⟨w.heap.size, 1, none⟩ = false ∧ w'.frozen? ⟨w.heap.size, 2, none⟩ = false ∧ w'.frozen? ⟨w.heap.size, 3, none⟩ = false) ∧ w.heap.size < w'.heap.size) := fun w' he => ⟨⟨he.cell c0, he.cell c1, he.cell c2, he.cell c3⟩, ⟨(he.frozen lw2).trans f0, (he.frozen lw2).trans f1, (he.frozen lw2).trans f2, (he.frozen lw2).trans f3⟩, he.lt lw2⟩
          have hsl : ∀ W, (Instr.slice 51 (.slice (some ⟨b, off, none⟩) (m + 8) c) none (some (.int .i64 m)) none).run Try.prog W = .ok (.slice (some ⟨b, off, none⟩) m c) W := fun W => HSL.out W
          have HX1 := Lib.hid X1
          have HP : Hid (∀ w', Ext w w' → Src w' 1 (some ⟨b, off, none⟩) m (p.map (Value.int .u8))) := fun w' he => HPP.out w' he
          clear c0 c1 c2 c3 f0 f1 f2 f3 E2
          have SETK : ∀ (W : World) (v0 v1 v2 v3 : Value), W.cell? ⟨b, off + m + 4, none⟩ = some (.int .u8 t4) → ((((W.setCell ⟨w.heap.size, 0, none⟩ v0).setCell ⟨w.heap.size, 1, none⟩ v1).setCell ⟨w.heap.size, 2, none⟩ v2).setCell ⟨w.heap.size, 3, none⟩ v3).cell? ⟨b, off + m + 4, none⟩ = some (.int .u8 t4) := fun W v0 v1 v2 v3 h => by
            rw [World.cell?_setCell_far _ _ _ _ (by simp only; omega), World.cell?_setCell_far _ _ _ _ (by simp only; omega), World.cell?_setCell_far _ _ _ _ (by simp only; omega), World.cell?_setCell_far _ _ _ _ (by simp only; omega)]; exact h
          go_upto_region 9 with fail
          go_cut [3] (fun s3 wx => s3 = .int .i64 0 ∧ ∃ (a5 : Option Addr) (c5 : Nat), wx.cell? ⟨w.heap.size, 0, none⟩ = some (.int .i64 (t0 * 256 + t1)) ∧ wx.cell? ⟨w.heap.size, 1, none⟩ = some (.int .i64 (t2 * 256 + t3)) ∧ wx.cell? ⟨w.heap.size, 2, none⟩ = some (.int .i64 (t4 - 160)) ∧ wx.cell? ⟨w.heap.size, 3, none⟩ = some (.slice a5 m c5) ∧ RB (Old w) wx (.slice a5 m c5) p ∧ Ext w wx)
          case first =>
            go_region_held3 (fun w' => w'.cell? ⟨b, off + m + 4, none⟩ = some (.int .u8 t4))
              (first | with_reducible exact g42 | with_reducible exact cell_drewK g42 | with_reducible exact cell_keep _ _ g42 | with_reducible exact cell_keep _ _ (cell_drewK g42) | with_reducible exact cell_drewK (cell_keep _ _ g42) | with_reducible exact SETK _ _ _ _ _ g42 | with_reducible exact cell_drewK (SETK _ _ _ _ _ g42) | with_reducible exact g43 | with_reducible exact cell_drewK g43 | with_reducible exact cell_keep _ _ g43 | with_reducible exact cell_keep _ _ (cell_drewK g43) | with_reducible exact cell_drewK (cell_keep _ _ g43) | with_reducible exact SETK _ _ _ _ _ g43 | with_reducible exact cell_drewK (SETK _ _ _ _ _ g43) | with_reducible exact g44 | with_reducible exact cell_drewK g44 | with_reducible exact cell_keep _ _ g44 | with_reducible exact cell_keep _ _ (cell_drewK g44) | with_reducible exact cell_drewK (cell_keep _ _ g44) | with_reducible exact SETK _ _ _ _ _ g44 | with_reducible exact cell_drewK (SETK _ _ _ _ _ g44) | with_reducible exact g45 | with_reducible exact cell_drewK g45 | with_reducible exact cell_keep _ _ g45 | with_reducible exact cell_keep _ _ (cell_drewK g45) | with_reducible exact cell_drewK (cell_keep _ _ g45) | with_reducible exact SETK _ _ _ _ _ g45 | with_reducible exact cell_drewK (SETK _ _ _ _ _ g45))
              (first
                | (go_at_call 35; (with_reducible refine (P3.out _ _ 6 (by omega) (HX1.out.trans (by first | with_reducible exact (Ext.refl w2) | with_reducible exact (Ext.refl w2).drew | with_reducible exact (Ext.refl w2).drew.alloc _ | with_reducible exact ((Ext.refl w2).alloc _).drew | with_reducible exact (Ext.refl w2).alloc _ | with_reducible exact X3 | with_reducible exact X3.alloc _ | with_reducible exact X4 | with_reducible exact X4.alloc _ | with_reducible exact Y5 | with_reducible exact Y5.alloc _))).mono ?_); rintro e w4 ⟨rfl, qb, hqb⟩; have Z4 := ext_of_drewN hqb; have X4 : Ext w2 w4 := Ext.trans (by first | with_reducible exact (Ext.refl w2) | with_reducible exact (Ext.refl w2).drew | with_reducible exact (Ext.refl w2).drew.alloc _ | with_reducible exact ((Ext.refl w2).alloc _).drew | with_reducible exact (Ext.refl w2).alloc _ | with_reducible exact X3 | with_reducible exact X3.alloc _ | with_reducible exact X4 | with_reducible exact X4.alloc _ | with_reducible exact Y5 | with_reducible exact Y5.alloc _) Z4; clear hqb; obtain ⟨⟨k0, k1, k2, k3⟩, ⟨m0, m1, m2, m3⟩, lk⟩ := KEEP.out _ X4; have g44 := X4.cell g42)
                | (refine step_append_src _ (by rfl) (.tmp 52) (.tmp 55) _ (by rfl) w2.heap.size 5 i0 _ 1 1 Try.underlying51 hi0 hz0 hz1 hz2 (by rfl) (by omega) _ 0 [] ?_ (by first | with_reducible exact HO0.out _ _ (Ext.size (by first | with_reducible exact (Ext.refl w2) | with_reducible exact (Ext.refl w2).drew | with_reducible exact (Ext.refl w2).drew.alloc _ | with_reducible exact ((Ext.refl w2).alloc _).drew | with_reducible exact (Ext.refl w2).alloc _ | with_reducible exact X3 | with_reducible exact X3.alloc _ | with_reducible exact X4 | with_reducible exact X4.alloc _ | with_reducible exact Y5 | with_reducible exact Y5.alloc _)) | with_reducible exact own_ext (HO0.out _ _ (Ext.size (by first | with_reducible exact (Ext.refl w2) | with_reducible exact (Ext.refl w2).drew | with_reducible exact (Ext.refl w2).drew.alloc _ | with_reducible exact ((Ext.refl w2).alloc _).drew | with_reducible exact (Ext.refl w2).alloc _ | with_reducible exact X3 | with_reducible exact X3.alloc _ | with_reducible exact X4 | with_reducible exact X4.alloc _ | with_reducible exact Y5 | with_reducible exact Y5.alloc _))) Z4 | with_reducible exact own_ext (HO0.out _ _ (Ext.size (by first | with_reducible exact (Ext.refl w2) | with_reducible exact (Ext.refl w2).drew | with_reducible exact (Ext.refl w2).drew.alloc _ | with_reducible exact ((Ext.refl w2).alloc _).drew | with_reducible exact (Ext.refl w2).alloc _ | with_reducible exact X3 | with_reducible exact X3.alloc _ | with_reducible exact X4 | with_reducible exact X4.alloc _ | with_reducible exact Y5 | with_reducible exact Y5.alloc _))) Z3 | with_reducible exact own_ext (own_ext (HO0.out _ _ (Ext.size (by first | with_reducible exact (Ext.refl w2) | with_reducible exact (Ext.refl w2).drew | with_reducible exact (Ext.refl w2).drew.alloc _ | with_reducible exact ((Ext.refl w2).alloc _).drew | with_reducible exact (Ext.refl w2).alloc _ | with_reducible exact X3 | with_reducible exact X3.alloc _ | with_reducible exact X4 | with_reducible exact X4.alloc _ | with_reducible exact Y5 | with_reducible exact Y5.alloc _))) Z3) Z4 | with_reducible exact own_ext (own_ext (own_ext (HO0.out _ _ (Ext.size (by first | with_reducible exact (Ext.refl w2) | with_reducible exact (Ext.refl w2).drew | with_reducible exact (Ext.refl w2).drew.alloc _ | with_reducible exact ((Ext.refl w2).alloc _).drew | with_reducible exact (Ext.refl w2).alloc _ | with_reducible exact X3 | with_reducible exact X3.alloc _ | with_reducible exact X4 | with_reducible exact X4.alloc _ | with_reducible exact Y5 | with_reducible exact Y5.alloc _))) (Ext.refl _).drew) Z3) Z4 | with_reducible exact own_ext (own_ext (HO0.out _ _ (Ext.size (by first | with_reducible exact (Ext.refl w2) | with_reducible exact (Ext.refl w2).drew | with_reducible exact (Ext.refl w2).drew.alloc _ | with_reducible exact ((Ext.refl w2).alloc _).drew | with_reducible exact (Ext.refl w2).alloc _ | with_reducible exact X3 | with_reducible exact X3.alloc _ | with_reducible exact X4 | with_reducible exact X4.alloc _ | with_reducible exact Y5 | with_reducible exact Y5.alloc _))) (Ext.refl _).drew) Z3 | with_reducible exact own_ext (HO0.out _ _ (Ext.size (by first | with_reducible exact (Ext.refl w2) | with_reducible exact (Ext.refl w2).drew | with_reducible exact (Ext.refl w2).drew.alloc _ | with_reducible exact ((Ext.refl w2).alloc _).drew | with_reducible exact (Ext.refl w2).alloc _ | with_reducible exact X3 | with_reducible exact X3.alloc _ | with_reducible exact X4 | with_reducible exact X4.alloc _ | with_reducible exact Y5 | with_reducible exact Y5.alloc _))) (Ext.refl _).drew | with_reducible exact own_ext (own_ext (HO0.out _ _ (Ext.size (by first | with_reducible exact (Ext.refl w2) | with_reducible exact (Ext.refl w2).drew | with_reducible exact (Ext.refl w2).drew.alloc _ | with_reducible exact ((Ext.refl w2).alloc _).drew | with_reducible exact (Ext.refl w2).alloc _ | with_reducible exact X3 | with_reducible exact X3.alloc _ | with_reducible exact X4 | with_reducible exact X4.alloc _ | with_reducible exact Y5 | with_reducible exact Y5.alloc _))) Z4) Z3) (some ⟨b, off, none⟩) m c _ (by rfl) (HP.out _ (HX1.out.trans (by first | with_reducible exact (Ext.refl w2) | with_reducible exact (Ext.refl w2).drew | with_reducible exact (Ext.refl w2).drew.alloc _ | with_reducible exact ((Ext.refl w2).alloc _).drew | with_reducible exact (Ext.refl w2).alloc _ | with_reducible exact X3 | with_reducible exact X3.alloc _ | with_reducible exact X4 | with_reducible exact X4.alloc _ | with_reducible exact Y5 | with_reducible exact Y5.alloc _))) (by unfold maxLen; omega) (by omega) (Ext.size (by first | with_reducible exact (Ext.refl w2) | with_reducible exact (Ext.refl w2).drew | with_reducible exact (Ext.refl w2).drew.alloc _ | with_reducible exact ((Ext.refl w2).alloc _).drew | with_reducible exact (Ext.refl w2).alloc _ | with_reducible exact X3 | with_reducible exact X3.alloc _ | with_reducible exact X4 | with_reducible exact X4.alloc _ | with_reducible exact Y5 | with_reducible exact Y5.alloc _)) ?_; rfl; intro A5 c5 w5 hown5 hg5 hat5; simp only [Nat.zero_add, List.nil_append] at hown5; have Y5 : Ext w2 w5 := Ext.grown (by first | with_reducible exact (Ext.refl w2) | with_reducible exact (Ext.refl w2).drew | with_reducible exact (Ext.refl w2).drew.alloc _ | with_reducible exact ((Ext.refl w2).alloc _).drew | with_reducible exact (Ext.refl w2).alloc _ | with_reducible exact X3 | with_reducible exact X3.alloc _ | with_reducible exact X4 | with_reducible exact X4.alloc _ | with_reducible exact Y5 | with_reducible exact Y5.alloc _) hg5 (fun g hg => by cases hg; first | exact X4.size | exact X3.size | exact Nat.le_refl _); have X5 := HX1.out.trans Y5; have HO5 := Lib.hid hown5; clear hown5 hg5 hat5; obtain ⟨⟨k0, k1, k2, k3⟩, ⟨m0, m1, m2, m3⟩, lk⟩ := KEEP.out _ Y5; have g45 := Y5.cell g42)
                | (go_at_call 35; (with_reducible refine (P2.out _ _ 8 (by omega) (HX1.out.trans (by first | with_reducible exact (Ext.refl w2) | with_reducible exact (Ext.refl w2).drew | with_reducible exact (Ext.refl w2).drew.alloc _ | with_reducible exact ((Ext.refl w2).alloc _).drew | with_reducible exact (Ext.refl w2).alloc _ | with_reducible exact X3 | with_reducible exact X3.alloc _ | with_reducible exact X4 | with_reducible exact X4.alloc _ | with_reducible exact Y5 | with_reducible exact Y5.alloc _))).mono ?_); rintro e w3 ⟨rfl, qa, hqa⟩; have Z3 := ext_of_drewN hqa; have X3 : Ext w2 w3 := Ext.trans (by first | with_reducible exact (Ext.refl w2) | with_reducible exact (Ext.refl w2).drew | with_reducible exact (Ext.refl w2).drew.alloc _ | with_reducible exact ((Ext.refl w2).alloc _).drew | with_reducible exact (Ext.refl w2).alloc _ | with_reducible exact X3 | with_reducible exact X3.alloc _ | with_reducible exact X4 | with_reducible exact X4.alloc _ | with_reducible exact Y5 | with_reducible exact Y5.alloc _) Z3; clear hqa; obtain ⟨⟨k0, k1, k2, k3⟩, ⟨m0, m1, m2, m3⟩, lk⟩ := KEEP.out _ X3; have g43 := X3.cell g42))
            all_goals
              go_wp2_with fail
              go_meet
              rw [wrap_id t4 (by omega) (by omega), wrap_id (t4 - 160) (by omega) (by omega)]
              exact ⟨rfl, A5, c5, cp_put (by first | exact X5 | exact HX1.out.trans X4 | exact HX1.out.trans X3) (Nat.le_refl _) lw2 k0 k1 k2 k3 (by first | exact HO5.out) hm HBY.out⟩
          case rest =>
            obtain ⟨rfl, a5, c5, d0, d1, d2, d3, hrb, hx⟩ := hcut
            go_wp2_with fail
            rw [HZ.out]
            exact bodyPost_ret (v := .tuple #[.agg #[.int .i64 (t0 * 256 + t1), .int .i64 (t2 * 256 + t3), .int .i64 (t4 - 160), .slice a5 m c5], .int .i64 0]) (by simp [results, Try.results20, go_sem, d0, d1, d2, d3]) rfl ⟨a5, c5, by simp [hm], hx, by simpa [hm] using hrb⟩
      · have hb6 : (t6 * 256 + t7 != (m : Int)) = true := by simpa using h6
        have HZ := Lib.hid (show z = (cp0, 4) by rw [← hz, if_pos (.inl h6)])
        clear hz h6
        go_wp2_with fail
        rw [HZ.out]
        refine bodyPost_ret (v := .tuple #[.agg #[.int .i64 0, .int .i64 0, .int .i64 0, .slice none 0 0], .int .i64 4]) (by simp [results, Try.results20, go_sem, c0, c1, c2, c3]) rfl (HE.out _ _ ?_)
        repeat (first | exact X1 | refine Ext.setCell ?_ (by simp) _)
end Go.Proofs.Ytdnoejdhphpieaa
