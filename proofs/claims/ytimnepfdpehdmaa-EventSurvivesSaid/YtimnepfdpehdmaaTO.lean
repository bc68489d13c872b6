/- Open of the program: layer 16. -/
import Derived.Test.YtimnepfdpehdmaaTN
import Derived.Deep.DeepCutAuto
namespace Go.Proofs.Ytimnepfdpehdmaa
open Go.RowKit
attribute [local go_sem ↓] Go.wp_at_zero Go.wp_at_succ

theorem info_byte16 : (Try.prog.info? 5).map (fun i => (i.zero, i.size, i.bytes)) = some (some (.int .u8 0), 1, 1) := by kernel_rfl
theorem RB.part {V : Nat → Prop} {w : World} {b off m c : Nat} {bs : List Int} (h : RB V w (.slice (some ⟨b, off, none⟩) m c) bs) (f n c' : Nat) (hf : f + n ≤ bs.length) (hc : n ≤ c') (hm : c' ≤ maxLen) :
    RB V w (.slice (some ⟨b, off + f, none⟩) n c') ((bs.drop f).take n) := by
  have hl : ((bs.drop f).take n).length = n := by simp; omega
  refine ⟨(h.byt.drop f).take n, some ⟨b, off + f, none⟩, c', by rw [hl], by omega, hm, fun hne => ?_⟩
  have h0 : 0 < bs.length := by
    have := List.length_pos_iff.2 hne
    omega
  obtain ⟨b1, off1, c1, hv, _, _, hV, hcell⟩ := h.at_ h0
  simp only [Value.slice.injEq, Option.some.injEq, Addr.mk.injEq] at hv
  obtain ⟨⟨rfl, rfl, -⟩, -, -⟩ := hv
  refine ⟨b, off + f, rfl, hV, fun j hj => ?_⟩
  have hj2 : j < n := by omega
  have := hcell (f + j) (by omega)
  rw [show off + f + j = off + (f + j) by omega, this]
  simp
/-- Source, Seq, Net, Payload; the error. -/
abbrev CopyOf : Type := (Int × Int × Int × List Int) × Int
def cp0 : Int × Int × Int × List Int := (0, 0, 0, [])
/-- What Open gives for the trailer t0 .. t7 behind m bytes p. -/
def opnT (p : List Int) (t0 t1 t2 t3 t4 t5 t6 t7 : Int) : CopyOf :=
  if isNet t4 = false ∨ t5 ≠ 0 then (cp0, 15) else if t6 * 256 + t7 ≠ p.length ∨ 1500 < p.length then (cp0, 4) else ((t0 * 256 + t1, t2 * 256 + t3, netOf t4, p), 0)
def opn (bs : List Int) : CopyOf :=
  match bs.drop (bs.length - 8) with
  | [t0, t1, t2, t3, t4, t5, t6, t7] => opnT (bs.take (bs.length - 8)) t0 t1 t2 t3 t4 t5 t6 t7
  | _ => (cp0, 13)
/-- It returns a copy and an error; the payload lies in new memory. -/
def RetCp (w : World) (z : CopyOf) (e : Ending) (w' : World) : Prop :=
  ∃ a c, e = .returned (.tuple #[.agg #[.int .i64 z.1.1, .int .i64 z.1.2.1, .int .i64 z.1.2.2.1, .slice a z.1.2.2.2.length c], .int .i64 z.2]) ∧ Ext w w' ∧ RB (Old w) w' (.slice a z.1.2.2.2.length c) z.1.2.2.2
theorem RetCp.err {w w' : World} (er : Int) (h : Ext w w') : RetCp w (cp0, er) (.returned (.tuple #[.agg #[.int .i64 0, .int .i64 0, .int .i64 0, .slice none 0 0], .int .i64 er])) w' := ⟨none, 0, rfl, h, RB.nil _ _⟩

/-- The result's cells, stored one after another. -/
theorem cp_put {w W : World} {B base m c5 : Nat} {A5 : Option Addr} {p : List Int} (he : Ext w W) (hB : w.heap.size ≤ B) (hb : B < base) {u0 u1 u2 u3 v0 v1 v2 : Value} (k0 : W.cell? ⟨B, 0, none⟩ = some u0) (k1 : W.cell? ⟨B, 1, none⟩ = some u1) (k2 : W.cell? ⟨B, 2, none⟩ = some u2) (k3 : W.cell? ⟨B, 3, none⟩ = some u3)
    (hO : W.ownsRow base 5 1 (.slice A5 m c5) m (p.map (Value.int .u8))) (hm : p.length = m) (hby : Byt p) :
    ((((W.setCell ⟨B, 0, none⟩ v0).setCell ⟨B, 1, none⟩ v1).setCell ⟨B, 2, none⟩ v2).setCell ⟨B, 3, none⟩ (.slice A5 m c5)).cell? ⟨B, 0, none⟩ = some v0 ∧
    ((((W.setCell ⟨B, 0, none⟩ v0).setCell ⟨B, 1, none⟩ v1).setCell ⟨B, 2, none⟩ v2).setCell ⟨B, 3, none⟩ (.slice A5 m c5)).cell? ⟨B, 1, none⟩ = some v1 ∧
    ((((W.setCell ⟨B, 0, none⟩ v0).setCell ⟨B, 1, none⟩ v1).setCell ⟨B, 2, none⟩ v2).setCell ⟨B, 3, none⟩ (.slice A5 m c5)).cell? ⟨B, 2, none⟩ = some v2 ∧
    ((((W.setCell ⟨B, 0, none⟩ v0).setCell ⟨B, 1, none⟩ v1).setCell ⟨B, 2, none⟩ v2).setCell ⟨B, 3, none⟩ (.slice A5 m c5)).cell? ⟨B, 3, none⟩ = some (.slice A5 m c5) ∧
    RB (Old w) ((((W.setCell ⟨B, 0, none⟩ v0).setCell ⟨B, 1, none⟩ v1).setCell ⟨B, 2, none⟩ v2).setCell ⟨B, 3, none⟩ (.slice A5 m c5)) (.slice A5 m c5) p ∧
    Ext w ((((W.setCell ⟨B, 0, none⟩ v0).setCell ⟨B, 1, none⟩ v1).setCell ⟨B, 2, none⟩ v2).setCell ⟨B, 3, none⟩ (.slice A5 m c5)) := by
  refine ⟨?_, ?_, ?_, ?_, ?_, (((he.setCell (by simpa using hB) _).setCell (by simpa using hB) _).setCell (by simpa using hB) _).setCell (by simpa using hB) _⟩
  · rw [World.cell?_setCell_other _ _ _ _ (by simp), World.cell?_setCell_other _ _ _ _ (by simp), World.cell?_setCell_other _ _ _ _ (by simp)]; exact World.cell?_setCell_same _ _ _ k0
  · rw [World.cell?_setCell_other _ _ _ _ (by simp), World.cell?_setCell_other _ _ _ _ (by simp)]; exact World.cell?_setCell_same _ _ _ ((World.cell?_setCell_other _ _ _ _ (by simp)).trans k1)
  · rw [World.cell?_setCell_other _ _ _ _ (by simp)]; exact World.cell?_setCell_same _ _ _ ((World.cell?_setCell_other _ _ _ _ (by simp)).trans ((World.cell?_setCell_other _ _ _ _ (by simp)).trans k2))
  · exact World.cell?_setCell_same _ _ _ ((World.cell?_setCell_other _ _ _ _ (by simp)).trans ((World.cell?_setCell_other _ _ _ _ (by simp)).trans ((World.cell?_setCell_other _ _ _ _ (by simp)).trans k3)))
  · subst hm
    have h0 : RB (fun k => k < base) W (.slice A5 p.length c5) p := RB.of_own hO hby (fun _ h => h)
    have h1 := (((h0.agree (agree_setCell (p := ⟨B, 0, none⟩) hb v0)).agree (agree_setCell (p := ⟨B, 1, none⟩) hb v1)).agree (agree_setCell (p := ⟨B, 2, none⟩) hb v2)).agree (agree_setCell (p := ⟨B, 3, none⟩) hb (.slice A5 p.length c5))
    exact h1.weak fun k _ h => (show k < base from by have : k < w.heap.size := h; omega)

set_option maxRecDepth 100000 in
set_option maxHeartbeats 4000000 in
theorem openP_short (a : Option Addr) (n c : Nat) (w : World) (hn : n < 8) : Calls Try.prog 25 #[.slice a n c] w (RetCp w (cp0, 13)) := by
  have hn2 : (n : Int) - 8 < 0 := by omega
  have HE := Lib.hid (fun w' (h : Ext w w') => RetCp.err 13 h)
  go_enter Try.func25, Try.ntmps25
  go_wp2
  refine bodyPost_ret (v := .tuple #[.agg #[.int .i64 0, .int .i64 0, .int .i64 0, .slice none 0 0], .int .i64 13]) (by simp [results, Try.results25, go_sem]) rfl (HE.out _ ((Ext.refl _).alloc _))

set_option maxRecDepth 100000 in
set_option maxHeartbeats 8000000 in
theorem openP_long (p : List Int) (t0 t1 t2 t3 t4 t5 t6 t7 : Int) (b off m c : Nat) (w : World) (hm : p.length = m) (hmm : m ≤ 9223372036854775799) (hc : m + 8 ≤ c) (hc2 : c ≤ maxLen) (h : RB Any w (.slice (some ⟨b, off, none⟩) (m + 8) c) (p ++ [t0, t1, t2, t3, t4, t5, t6, t7])) :
    Calls Try.prog 25 #[.slice (some ⟨b, off, none⟩) (m + 8) c] w (RetCp w (opnT p t0 t1 t2 t3 t4 t5 t6 t7)) := by
  obtain ⟨i0, hi0, hz0, hz1, hz2⟩ := info_parts info_byte16
  have hc3 : c ≤ 9223372036854775807 := by unfold maxLen at hc2; omega
  have hcell : ∀ j u, [t0, t1, t2, t3, t4, t5, t6, t7][j]? = some u → w.cell? ⟨b, off + m + j, none⟩ = some (.int .u8 u) ∧ 0 ≤ u ∧ u ≤ 255 := fun j u hu => by
    obtain ⟨b', off', c', hv, _, _, _, hcc⟩ := h.at_ (by simp)
    simp only [Value.slice.injEq, Option.some.injEq, Addr.mk.injEq, and_true] at hv
    obtain ⟨⟨rfl, rfl⟩, -, rfl⟩ := hv
    have hj := get_lt hu
    have h1 := hcc (m + j) (by simp at hj ⊢; omega)
    have e : (p ++ [t0, t1, t2, t3, t4, t5, t6, t7])[m + j]'(by simp at hj ⊢; omega) = u := by
      rw [List.getElem_append_right (by omega)]
      simp only [hm, Nat.add_sub_cancel_left]
      exact (List.getElem?_eq_some_iff.1 hu).2
    rw [e] at h1
    refine ⟨by rw [← h1]; congr 2; omega, h.byt u ?_⟩
    rw [← e]
    exact List.getElem_mem _
  obtain ⟨g0, r0⟩ := hcell 0 t0 rfl
  obtain ⟨g1, r1⟩ := hcell 1 t1 rfl
  obtain ⟨g2, r2⟩ := hcell 2 t2 rfl
  obtain ⟨g3, r3⟩ := hcell 3 t3 rfl
  obtain ⟨g4, r4⟩ := hcell 4 t4 rfl
  obtain ⟨g5, r5⟩ := hcell 5 t5 rfl
  obtain ⟨g6, r6⟩ := hcell 6 t6 rfl
  obtain ⟨g7, r7⟩ := hcell 7 t7 rfl
  have HN : Hid (∀ w1, Calls Try.prog 32 #[] w1 fun e w' => ∃ r, e = .returned (.map (some r)) ∧ Ext w1 w' ∧ w'.heap[r]? = some (.map netEs 2)) := fun w1 => (networks_any w1).mono fun e w' ⟨h1, h2⟩ => ⟨_, h1, by rw [h2]; exact (Ext.refl _).alloc _, by rw [h2]; exact heap_alloc_new _ _⟩
  have HLK := Lib.hid (fun w1 r h => net_look w1 r t4 h)
  have P1 := Lib.hid (fun w1 c' (h1 : Ext w w1) => pair_cellsP t6 t7 b (off + m + 6) 2 c' w1 r6 r7 (h1.cell g6) (h1.cell g7) (Nat.le_refl _))
  have P2 := Lib.hid (fun w1 c' n (hn : 2 ≤ n) (h1 : Ext w w1) => pair_cellsP t0 t1 b (off + m) n c' w1 r0 r1 (h1.cell g0) (h1.cell g1) hn)
  have P3 := Lib.hid (fun w1 c' n (hn : 2 ≤ n) (h1 : Ext w w1) => pair_cellsP t2 t3 b (off + m + 2) n c' w1 r2 r3 (h1.cell g2) (h1.cell g3) hn)
  have lb : b < w.heap.size := World.block_lt_of_cell? w _ g0
  have HPP : Hid (∀ w', Ext w w' → Src w' 1 (some ⟨b, off, none⟩) m (p.map (Value.int .u8))) := fun w' he => by
    have h1 := (h.ext he).part 0 m m (by simp; omega) (Nat.le_refl _) (by omega)
    rw [Nat.add_zero, List.drop_zero, ← hm, List.take_left] at h1
    have h2 := Src.bytes h1
    rw [hm] at h2
    exact h2
  have HSL : Hid (∀ W, (Instr.slice 51 (.slice (some ⟨b, off, none⟩) (m + 8) c) none (some (.int .i64 m)) (some (.int .i64 m))).run Try.prog W = .ok (.slice (some ⟨b, off, none⟩) m m) W) := fun W => by
    rw [run_slice_hm W _ _ _ _ (by kernel_rfl) _ _ _ _ (by omega) (by omega) (by omega)]
    have hs : (sizeOf (Try.prog.elem 51)).run Try.prog W = .ok 1 W := by kernel_rfl
    rw [hs]
    simp only [Result.andThen, sliced_cut]
    rw [show (m : Int).toNat = m by omega, show m - 0 = m by omega]
    unfold cutA
    simp
  have HBY := Lib.hid (show Byt p from fun y hy => h.byt y (by simp [hy]))
  have HE := Lib.hid (fun er w' (h : Ext w w') => RetCp.err er h)
  obtain ⟨z, hz⟩ : ∃ z, opnT p t0 t1 t2 t3 t4 t5 t6 t7 = z := ⟨_, rfl⟩
  rw [hz]
  unfold opnT at hz
  rw [hm] at hz
  have hmi : (m : Int) ≤ 9223372036854775799 := by omega
  clear hcell g0 g1 g2 g3 g6 g7 r0 r1 r2 r3 r6 r7
  go_enter Try.func25, Try.ntmps25
  go_upto_region 5 with fail
  rw [show m + 8 - m = 8 from by omega]
  have X0 : Ext w (w.alloc (.cells #[.int .i64 0, .int .i64 0, .int .i64 0, .slice none 0 0] 81)) := (Ext.refl w).alloc _
  go_cut [6, 7] (fun s6 s7 wx => s6 = .int .i64 (netOf t4) ∧ s7 = .bool (isNet t4) ∧ Ext (w.alloc (.cells #[.int .i64 0, .int .i64 0, .int .i64 0, .slice none 0 0] 81)) wx)
  case first =>
    have g4' := X0.cell g4
    go_region_held3 (fun w' => w'.cell? ⟨b, off + m + 4, none⟩ = some (.int .u8 t4))
      (first | exact g4' | exact x1.cell (by exact g4'))
      (first | (go_at_call 32; refine (HN.out _).mono ?_; rintro e w1 ⟨r, rfl, x1, hr⟩; have hlk := HLK.out w1 r hr; have g41 := x1.cell (by exact g4')))
    all_goals
      go_wp2_with fail
      go_meet
      exact ⟨rfl, rfl, (Ext.refl _).drew.trans x1⟩
  case rest =>
    obtain ⟨rfl, rfl, x1⟩ := hcut
    have X1 := X0.trans x1
    have c0 : wc.cell? ⟨w.heap.size, 0, none⟩ = some (.int .i64 0) := x1.cell (cell_at _ _ _ _ 0 _ rfl rfl)
    have c1 : wc.cell? ⟨w.heap.size, 1, none⟩ = some (.int .i64 0) := x1.cell (cell_at _ _ _ _ 1 _ rfl rfl)
    have c2 : wc.cell? ⟨w.heap.size, 2, none⟩ = some (.int .i64 0) := x1.cell (cell_at _ _ _ _ 2 _ rfl rfl)
    have c3 : wc.cell? ⟨w.heap.size, 3, none⟩ = some (.slice none 0 0) := x1.cell (cell_at _ _ _ _ 3 _ rfl rfl)
    have f0 : wc.frozen? ⟨w.heap.size, 0, none⟩ = false := (x1.frozen (by simp)).trans (frozen_at _ _ _ _ 0 rfl)
    have f1 : wc.frozen? ⟨w.heap.size, 1, none⟩ = false := (x1.frozen (by simp)).trans (frozen_at _ _ _ _ 1 rfl)
    have f2 : wc.frozen? ⟨w.heap.size, 2, none⟩ = false := (x1.frozen (by simp)).trans (frozen_at _ _ _ _ 2 rfl)
    have f3 : wc.frozen? ⟨w.heap.size, 3, none⟩ = false := (x1.frozen (by simp)).trans (frozen_at _ _ _ _ 3 rfl)
    have g5' := X1.cell g5
    clear g4 g5
    cases hnb : isNet t4 with
    | false =>
      have HZ := Lib.hid (show z = (cp0, 15) by rw [← hz, if_pos (.inl hnb)])
      clear hz hnb
      generalize netOf t4 = nt at *
      go_wp2_with fail
      rw [HZ.out]
      refine bodyPost_ret (v := .tuple #[.agg #[.int .i64 0, .int .i64 0, .int .i64 0, .slice none 0 0], .int .i64 15]) (by simp [results, Try.results25, go_sem, c0, c1, c2, c3]) rfl (HE.out _ _ ?_)
      repeat (first | exact X1 | refine Ext.setCell ?_ (by simp) _)
    | true =>
      by_cases h5 : t5 = 0
      · have hb5 : (t5 != 0) = false := by simpa using h5
        rw [if_neg (by simp [hnb, h5])] at hz
        clear hnb h5
        go_wp2_with fail
        refine (P1.out _ _ X1).mono ?_
        rintro e w2 ⟨rfl, q, hq⟩
        have E2 : Ext wc w2 := by rw [hq]; exact (Ext.refl wc).drewN q
        clear hq
        replace X1 := X1.trans E2
        have lc := x1.size
        replace f0 := (E2.frozen (p := ⟨w.heap.size, 0, none⟩) (by simp at lc ⊢; omega)).trans f0
        replace f1 := (E2.frozen (p := ⟨w.heap.size, 1, none⟩) (by simp at lc ⊢; omega)).trans f1
        replace f2 := (E2.frozen (p := ⟨w.heap.size, 2, none⟩) (by simp at lc ⊢; omega)).trans f2
        replace f3 := (E2.frozen (p := ⟨w.heap.size, 3, none⟩) (by simp at lc ⊢; omega)).trans f3
        replace c0 := E2.cell c0
        replace c1 := E2.cell c1
        replace c2 := E2.cell c2
        replace c3 := E2.cell c3
        clear g5' lc
        have hc1 : c ≠ 0 := by omega
        by_cases h6 : t6 * 256 + t7 = m
        · have hb6 : (t6 * 256 + t7 != (m : Int)) = false := by simpa using h6
          by_cases hm15 : 1500 < m
          · have hm16 : (1500 : Int) < m := by omega
            have HZ := Lib.hid (show z = (cp0, 4) by rw [← hz, if_pos (.inr hm15)])
            clear hz h6
            go_wp2_with fail
            rw [HZ.out]
            refine bodyPost_ret (v := .tuple #[.agg #[.int .i64 0, .int .i64 0, .int .i64 0, .slice none 0 0], .int .i64 4]) (by simp [results, Try.results25, go_sem, c0, c1, c2, c3]) rfl (HE.out _ _ ?_)
            repeat (first | exact X1 | refine Ext.setCell ?_ (by simp) _)
          · have hm16 : ¬ (1500 : Int) < m := by omega
            have HZ := Lib.hid (show z = ((t0 * 256 + t1, t2 * 256 + t3, netOf t4, p), 0) by rw [← hz, if_neg]; intro hh; rcases hh with hh | hh; exact hh h6; exact hm15 hh)
            clear hz h6
            generalize netOf t4 = nt at *
            have lw2 : w.heap.size < w2.heap.size := by have := x1.size; have := E2.size; simp at *; omega
            have KEEP : Hid (∀ w', Ext w2 w' → (w'.cell? ⟨w.heap.size, 0, none⟩ = some (.int .i64 0) ∧ w'.cell? ⟨w.heap.size, 1, none⟩ = some (.int .i64 0) ∧ w'.cell? ⟨w.heap.size, 2, none⟩ = some (.int .i64 0) ∧ w'.cell? ⟨w.heap.size, 3, none⟩ = some (.slice none 0 0)) ∧ (w'.frozen? ⟨w.heap.size, 0, none⟩ = false ∧ w'.frozen? ⟨w.heap.size, 1, none⟩ = false ∧ w'.frozen? ⟨w.heap.size, 2, none⟩ = false ∧ w'.frozen? ⟨w.heap.size, 3, none⟩ = false) ∧ w.heap.size < w'.heap.size) := fun w' he => ⟨⟨he.cell c0, he.cell c1, he.cell c2, he.cell c3⟩, ⟨(he.frozen lw2).trans f0, (he.frozen lw2).trans f1, (he.frozen lw2).trans f2, (he.frozen lw2).trans f3⟩, he.lt lw2⟩
            have hsl : ∀ W, (Instr.slice 51 (.slice (some ⟨b, off, none⟩) (m + 8) c) none (some (.int .i64 m)) (some (.int .i64 m))).run Try.prog W = .ok (.slice (some ⟨b, off, none⟩) m m) W := fun W => HSL.out W
            have HX1 := Lib.hid X1
            have HP : Hid (∀ w', Ext w w' → Src w' 1 (some ⟨b, off, none⟩) m (p.map (Value.int .u8))) := fun w' he => HPP.out w' he
            clear c0 c1 c2 c3 f0 f1 f2 f3 X0 x1 E2
            go_upto_region 10 with fail
            go_cut [3] (fun s3 wx => s3 = .int .i64 0 ∧ ∃ (a5 : Option Addr) (c5 : Nat), wx.cell? ⟨w.heap.size, 0, none⟩ = some (.int .i64 (t0 * 256 + t1)) ∧ wx.cell? ⟨w.heap.size, 1, none⟩ = some (.int .i64 (t2 * 256 + t3)) ∧ wx.cell? ⟨w.heap.size, 2, none⟩ = some (.int .i64 nt) ∧ wx.cell? ⟨w.heap.size, 3, none⟩ = some (.slice a5 m c5) ∧ RB (Old w) wx (.slice a5 m c5) p ∧ Ext w wx)
            case first =>
              go_region_held3 (fun _ => True)
                (exact trivial)
                (first
                  | (go_at_call 38; (with_reducible refine (P3.out _ _ 6 (by omega) (by first | exact HX1.out.trans X3 | exact HX1.out.trans Y5)).mono ?_); rintro e w4 ⟨rfl, qb, hqb⟩; have X4 : Ext w2 w4 := (by rw [hqb]; exact Ext.drewN (by first | exact X3 | exact Y5) qb); clear hqb; obtain ⟨⟨k0, k1, k2, k3⟩, ⟨m0, m1, m2, m3⟩, lk⟩ := KEEP.out _ X4)
                  | (refine step_append_src _ (by rfl) (.const (.slice none 0 0)) (.tmp 57) _ (by rfl) w2.heap.size 5 i0 _ 1 1 Try.underlying51 hi0 hz0 hz1 hz2 (by rfl) (by omega) _ 0 [] (by rfl) (World.ownsRow_nil _ _ _ _) (some ⟨b, off, none⟩) m m _ (by rfl) (HP.out _ (by first | exact X1.drew | exact HX1.out.trans X4 | exact HX1.out.trans X3)) (by unfold maxLen; omega) (by omega) (Ext.size (by first | exact (Ext.refl w2).drew | exact X4 | exact X3)) ?_; intro A5 c5 w5 hown5 hg5 hat5; simp only [Nat.zero_add, List.nil_append] at hown5; have Y5 : Ext w2 w5 := Ext.grown (by first | exact (Ext.refl w2).drew | exact X4 | exact X3) hg5 (fun g hg => by cases hg); have X5 := HX1.out.trans Y5; have HO5 := Lib.hid hown5; clear hown5 hg5 hat5; obtain ⟨⟨k0, k1, k2, k3⟩, ⟨m0, m1, m2, m3⟩, lk⟩ := KEEP.out _ Y5)
                  | (go_at_call 38; (with_reducible refine (P2.out _ _ 8 (by omega) (by first | exact X1.drew | exact X5)).mono ?_); rintro e w3 ⟨rfl, qa, hqa⟩; have X3 : Ext w2 w3 := (by rw [hqa]; exact Ext.drewN (by first | exact (Ext.refl w2).drew | exact Y5) qa); clear hqa; obtain ⟨⟨k0, k1, k2, k3⟩, ⟨m0, m1, m2, m3⟩, lk⟩ := KEEP.out _ X3))
              all_goals
                go_wp2_with fail
                go_meet
                exact ⟨rfl, A5, c5, cp_put (by first | exact X5 | exact HX1.out.trans X4 | exact HX1.out.trans X3) (Nat.le_refl _) lw2 k0 k1 k2 k3 (by first | exact HO5.out | exact own_ext HO5.out YD) hm HBY.out⟩
            case rest =>
              obtain ⟨rfl, a5, c5, d0, d1, d2, d3, hrb, hx⟩ := hcut
              go_wp2_with fail
              rw [HZ.out]
              exact bodyPost_ret (v := .tuple #[.agg #[.int .i64 (t0 * 256 + t1), .int .i64 (t2 * 256 + t3), .int .i64 nt, .slice a5 m c5], .int .i64 0]) (by simp [results, Try.results25, go_sem, d0, d1, d2, d3]) rfl ⟨a5, c5, by simp [hm], hx, by simpa [hm] using hrb⟩
        · have hb6 : (t6 * 256 + t7 != (m : Int)) = true := by simpa using h6
          have HZ := Lib.hid (show z = (cp0, 4) by rw [← hz, if_pos (.inl h6)])
          clear hz h6
          go_wp2_with fail
          rw [HZ.out]
          refine bodyPost_ret (v := .tuple #[.agg #[.int .i64 0, .int .i64 0, .int .i64 0, .slice none 0 0], .int .i64 4]) (by simp [results, Try.results25, go_sem, c0, c1, c2, c3]) rfl (HE.out _ _ ?_)
          repeat (first | exact X1 | refine Ext.setCell ?_ (by simp) _)
      · have hb5 : (t5 != 0) = true := by simpa using h5
        have HZ := Lib.hid (show z = (cp0, 15) by rw [← hz, if_pos (.inr h5)])
        clear hz hnb h5
        generalize netOf t4 = nt at *
        go_wp2_with fail
        rw [HZ.out]
        refine bodyPost_ret (v := .tuple #[.agg #[.int .i64 0, .int .i64 0, .int .i64 0, .slice none 0 0], .int .i64 15]) (by simp [results, Try.results25, go_sem, c0, c1, c2, c3]) rfl (HE.out _ _ ?_)
        repeat (first | exact X1 | refine Ext.setCell ?_ (by simp) _)
end Go.Proofs.Ytimnepfdpehdmaa

namespace Go.Proofs.Ytimnepfdpehdmaa
open Go.RowKit

theorem eight {α : Type} {l : List α} (h : l.length = 8) : ∃ t0 t1 t2 t3 t4 t5 t6 t7, l = [t0, t1, t2, t3, t4, t5, t6, t7] := by
  rcases l with _ | ⟨t0, _ | ⟨t1, _ | ⟨t2, _ | ⟨t3, _ | ⟨t4, _ | ⟨t5, _ | ⟨t6, _ | ⟨t7, _ | ⟨t8, l⟩⟩⟩⟩⟩⟩⟩⟩⟩ <;> first | exact ⟨_, _, _, _, _, _, _, _, rfl⟩ | (simp at h) | (simp at h; omega)
theorem opn_short {bs : List Int} (h : bs.length < 8) : opn bs = (cp0, 13) := by
  unfold opn
  rw [show bs.length - 8 = 0 by omega, List.drop_zero]
  split
  · simp at h
  · rfl
theorem opn_app {p : List Int} {t0 t1 t2 t3 t4 t5 t6 t7 : Int} : opn (p ++ [t0, t1, t2, t3, t4, t5, t6, t7]) = opnT p t0 t1 t2 t3 t4 t5 t6 t7 := by
  unfold opn
  have e : (p ++ [t0, t1, t2, t3, t4, t5, t6, t7]).length - 8 = p.length := by simp
  rw [e, List.drop_left, List.take_left]
theorem open_any (F : FuncId) (hs : ∀ (a : Option Addr) (n c : Nat) (w : World), n < 8 → Calls Try.prog F #[.slice a n c] w (RetCp w (cp0, 13)))
    (hl : ∀ (p : List Int) (t0 t1 t2 t3 t4 t5 t6 t7 : Int) (b off m c : Nat) (w : World), p.length = m → m ≤ 9223372036854775799 → m + 8 ≤ c → c ≤ maxLen → RB Any w (.slice (some ⟨b, off, none⟩) (m + 8) c) (p ++ [t0, t1, t2, t3, t4, t5, t6, t7]) → Calls Try.prog F #[.slice (some ⟨b, off, none⟩) (m + 8) c] w (RetCp w (opnT p t0 t1 t2 t3 t4 t5 t6 t7)))
    (bs : List Int) (v : Value) (w : World) (h : RB Any w v bs) : Calls Try.prog F #[v] w (RetCp w (opn bs)) := by
  obtain ⟨a, c, rfl, h1, h2⟩ := h.form
  by_cases h8 : bs.length < 8
  · rw [opn_short h8]
    exact hs _ _ _ _ h8
  · obtain ⟨b, off, c', hv, _, _, _, _⟩ := h.at_ (by omega)
    simp only [Value.slice.injEq] at hv
    obtain ⟨rfl, -, rfl⟩ := hv
    obtain ⟨t0, t1, t2, t3, t4, t5, t6, t7, ht⟩ := eight (l := bs.drop (bs.length - 8)) (by simp; omega)
    have e : bs.take (bs.length - 8) ++ [t0, t1, t2, t3, t4, t5, t6, t7] = bs := by rw [← ht]; exact List.take_append_drop _ _
    have hn : bs.length = bs.length - 8 + 8 := by omega
    have hlen : (bs.take (bs.length - 8)).length = bs.length - 8 := by simp
    generalize bs.take (bs.length - 8) = p at *
    generalize bs.length - 8 = m at *
    rw [hn] at h h1 ⊢
    rw [← e] at h ⊢
    rw [opn_app]
    exact hl p _ _ _ _ _ _ _ _ b off m c w hlen (by unfold maxLen at h2; omega) h1 h2 h
theorem openP_any (bs : List Int) (v : Value) (w : World) (h : RB Any w v bs) : Calls Try.prog 25 #[v] w (RetCp w (opn bs)) := open_any 25 openP_short openP_long bs v w h
end Go.Proofs.Ytimnepfdpehdmaa
