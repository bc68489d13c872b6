/- Same of the reference and To of the statements: layer 16. -/
import Derived.Test.YtdnoejdhphpieaaTwU
namespace Go.Proofs.Ytdnoejdhphpieaa
open Go.RowKit
attribute [local go_sem ↓] Go.wp_at_zero Go.wp_at_succ

theorem neq_rsrc (x y : Src3) (w : World) : (binOp .neq 75 (.agg #[.int .i64 x.1, .int .i64 x.2.1, .int .u64 ((x.2.2 : Nat) : Int)]) (.agg #[.int .i64 y.1, .int .i64 y.2.1, .int .u64 ((y.2.2 : Nat) : Int)])).run Try.prog w = .ok (.bool (!decide (x = y))) w := by
  have hS : Try.prog.underlying 75 = some (.struct (Try.prog.fieldsOf 75)) := by kernel_rfl
  have hp : Try.prog.stoodInHeld 75 = false := by kernel_rfl
  rw [run_neq_struct, show (10000 : Nat) = 9999 + 1 from rfl, run_equalIn_agg w 9999 75 _ _ hS hp]
  simp only [Program.fieldsOf, Try.underlying75]
  go_simp
  obtain ⟨a, b, c⟩ := x
  obtain ⟨d, e, f⟩ := y
  simp only [Prod.mk.injEq]
  by_cases h1 : a = d <;> by_cases h2 : b = e <;> by_cases h3 : (c : Int) = (f : Int) <;> simp [h1, h2, h3] <;> omega

set_option maxRecDepth 100000 in
set_option maxHeartbeats 2000000 in
theorem sameTR_any (a b : List Src3) (va vb : Value) (w : World) (ha : RF Any 3 srcE w va a) (hb : RF Any 3 srcE w vb b) :
    Calls Try.prog 14 #[.agg #[va], .agg #[vb]] w fun e w' => e = .returned (.bool (decide (a = b))) ∧ Ext w w' := by
  obtain ⟨aa, ac, rfl, hc1, hc2⟩ := ha.form
  obtain ⟨ba, bc, rfl, hc3, hc4⟩ := hb.form
  have hmax : a.length ≤ 9223372036854775807 := by unfold maxLen at hc2; omega
  have HA := Lib.hid ha
  have HB := Lib.hid hb
  have HQ := Lib.hid (list_eq_of a b)
  have HNE := Lib.hid (list_ne_at a b)
  clear ha hb hc1 hc2 hc3 hc4
  generalize hna : a.length = na at *
  generalize hnb : b.length = nb at *
  have HNA := Lib.hid hna
  have HNB := Lib.hid hnb
  clear hna hnb
  by_cases hl : na = nb
  · subst hl
    go_enter Try.func14, Try.ntmps14
    go_wp2
    have X0 : Ext w ((w.alloc (.cells #[.slice aa na ac] 41)).alloc (.cells #[.slice ba na bc] 41)) := ((Ext.refl w).alloc _).alloc _
    have z0 : ((w.alloc (.cells #[.slice aa na ac] 41)).alloc (.cells #[.slice ba na bc] 41)).heap.size = w.heap.size + 2 := by simp
    have B0 : ((w.alloc (.cells #[.slice aa na ac] 41)).alloc (.cells #[.slice ba na bc] 41)).cell? ⟨w.heap.size, 0, none⟩ = some (.slice aa na ac) := cell_keep _ _ (cell_at _ _ _ _ 0 _ rfl rfl)
    have B1 : ((w.alloc (.cells #[.slice aa na ac] 41)).alloc (.cells #[.slice ba na bc] 41)).cell? ⟨w.heap.size + 1, 0, none⟩ = some (.slice ba na bc) := cell_at _ _ _ _ 0 _ (by simp) rfl
    generalize (w.alloc (.cells #[.slice aa na ac] 41)).alloc (.cells #[.slice ba na bc] 41) = W at *
    go_loopw [5] (fun i wr => ∃ (k : Nat), k ≤ na ∧ i = .int .i64 k ∧ (∀ (i : Nat) x y, a[i]? = some x → b[i]? = some y → i < k → x = y) ∧ Ext W wr) (fun i _ => na - (intOf i).toNat)
    case atStart => exact ⟨0, Nat.zero_le _, rfl, fun i _ _ _ _ h => by omega, Ext.refl _⟩
    case round =>
      obtain ⟨k, hk1, rfl, hall, hx⟩ := hrel
      have HALL := Lib.hid hall
      have b0 := hx.cell B0
      have b1 := hx.cell B1
      clear hall
      by_cases hlt : k < na
      · obtain ⟨x, hxk⟩ : ∃ x, a[k]? = some x := ⟨_, List.getElem?_eq_getElem (by rw [HNA.out]; exact hlt)⟩
        obtain ⟨y, hyk⟩ : ∃ y, b[k]? = some y := ⟨_, List.getElem?_eq_getElem (by rw [HNB.out]; exact hlt)⟩
        obtain ⟨b1', o1, c1, hv1, g0, g1, g2⟩ := src_get (HA.out.ext (X0.trans hx)) hxk
        obtain ⟨b2', o2, c2, hv2, f0, f1, f2⟩ := src_get (HB.out.ext (X0.trans hx)) hyk
        rw [HNA.out] at hv1
        rw [HNB.out] at hv2
        simp only [Value.slice.injEq] at hv1 hv2
        obtain ⟨rfl, -, rfl⟩ := hv1
        obtain ⟨rfl, -, rfl⟩ := hv2
        have he := fun w1 => neq_rsrc x y w1
        obtain ⟨r, hr⟩ : ∃ r, decide (x = y) = r := ⟨_, rfl⟩
        rw [hr] at he
        have HR := Lib.hid hr
        have HXK := Lib.hid hxk
        have HYK := Lib.hid hyk
        clear hr hxk hyk
        obtain ⟨x1, x2, x3⟩ := x
        obtain ⟨y1, y2, y3⟩ := y
        simp only at *
        have hki : (k : Int) < na := by omega
        cases r
        · go_wp2
          go_quiet (fail)
          go_wp2
          go_ret
          exact ⟨ret_bool (decide_eq_false (HNE.out k _ _ HXK.out HYK.out (of_decide_eq_false HR.out))).symm, (X0.trans hx).drewN nq⟩
        · go_wp2
          go_quiet (fail)
          go_wp2
          go_roundw
          case rel => exact ⟨k + 1, by omega, by go_num, fun i x y h1 h2 hi => by
            rcases Nat.lt_or_ge i k with h | h
            · exact HALL.out i x y h1 h2 h
            · have hik : i = k := by omega
              subst hik
              have e1 := HXK.out
              have e2 := HYK.out
              rw [h1] at e1
              rw [h2] at e2
              injection e1 with e1
              injection e2 with e2
              rw [e1, e2]
              exact of_decide_eq_true HR.out, hx.drewN nq⟩
          case measure => simp [intOf]; omega
      · go_wp2
        go_ret
        refine ⟨ret_bool (decide_eq_true ?_).symm, X0.trans hx⟩
        exact HQ.out (by first | trivial | rfl) fun i x y h1 h2 => HALL.out i x y h1 h2 (by have := get_lt h1; rw [HNA.out] at this; omega)
  · have hl2 : ((na : Int) != nb) = true := by simp; omega
    go_enter Try.func14, Try.ntmps14
    go_wp2
    go_ret
    exact ⟨ret_bool (decide_eq_false (fun e => hl (by rw [← HNA.out, ← HNB.out, e]))).symm, ((Ext.refl _).alloc _).alloc _⟩

theorem flat_snoc (l : List Src3) (k : Nat) (x : Src3) (hx : l[k]? = some x) : (l.take (k + 1)).flatMap srcE = (l.take k).flatMap srcE ++ [.int .i64 x.1, .int .i64 x.2.1, .int .u64 ((x.2.2 : Nat) : Int)] := by
  obtain ⟨hk, rfl⟩ := List.getElem?_eq_some_iff.1 hx
  rw [List.take_succ_eq_append_getElem hk, List.flatMap_append]
  simp [srcE]
set_option maxRecDepth 100000 in
set_option maxHeartbeats 2000000 in
theorem to16_any (l : List Src3) (v : Value) (w : World) (h : RF Any 3 srcE w v l) (hl : l.length ≤ 10000000) : Calls Try.prog 15 #[.agg #[v]] w (RetRow 75 w l.length (l.flatMap srcE)) := by
  obtain ⟨i0, hi0, hz0, hz1, hz2⟩ := info_parts info_rsrc
  obtain ⟨va, vc, rfl, _, _⟩ := h.form
  have HL := Lib.hid h
  have HSN := Lib.hid (fun k x (hx : l[k]? = some x) => flat_snoc l k x hx)
  have HALL := Lib.hid (show l.take l.length = l from List.take_length)
  clear h
  generalize hn : l.length = n at *
  have HN := Lib.hid hn
  clear hn
  go_enter Try.func15, Try.ntmps15
  go_wp2
  have X0 : Ext w (((w.alloc (.cells #[.slice va n vc] 28)).alloc (.cells #[.slice none 0 0] 41)).alloc (.cells #[.slice none 0 0] 41)) := (((Ext.refl w).alloc _).alloc _).alloc _
  have B0 : (((w.alloc (.cells #[.slice va n vc] 28)).alloc (.cells #[.slice none 0 0] 41)).alloc (.cells #[.slice none 0 0] 41)).cell? ⟨w.heap.size, 0, none⟩ = some (.slice va n vc) := cell_keep _ _ (cell_keep _ _ (cell_at _ _ _ _ 0 _ rfl rfl))
  have B1 : (((w.alloc (.cells #[.slice va n vc] 28)).alloc (.cells #[.slice none 0 0] 41)).alloc (.cells #[.slice none 0 0] 41)).cell? ⟨w.heap.size + 1, 0, none⟩ = some (.slice none 0 0) := cell_keep _ _ (cell_at _ _ _ _ 0 _ (by simp) rfl)
  have F1 : (((w.alloc (.cells #[.slice va n vc] 28)).alloc (.cells #[.slice none 0 0] 41)).alloc (.cells #[.slice none 0 0] 41)).frozen? ⟨w.heap.size + 1, 0, none⟩ = false := (((Ext.refl _).alloc _).frozen (by simp)).trans (frozen_at _ _ _ _ 0 (by simp))
  have B2 : (((w.alloc (.cells #[.slice va n vc] 28)).alloc (.cells #[.slice none 0 0] 41)).alloc (.cells #[.slice none 0 0] 41)).cell? ⟨w.heap.size + 1 + 1, 0, none⟩ = some (.slice none 0 0) := cell_at _ _ _ _ 0 _ (by simp) rfl
  have F2 : (((w.alloc (.cells #[.slice va n vc] 28)).alloc (.cells #[.slice none 0 0] 41)).alloc (.cells #[.slice none 0 0] 41)).frozen? ⟨w.heap.size + 1 + 1, 0, none⟩ = false := frozen_at _ _ _ _ 0 (by simp)
  have z0 : (((w.alloc (.cells #[.slice va n vc] 28)).alloc (.cells #[.slice none 0 0] 41)).alloc (.cells #[.slice none 0 0] 41)).heap.size = w.heap.size + 3 := by simp
  have HZ := Lib.hid z0
  generalize ((w.alloc (.cells #[.slice va n vc] 28)).alloc (.cells #[.slice none 0 0] 41)).alloc (.cells #[.slice none 0 0] 41) = W at *
  clear z0
  go_loopw [4] (fun i wr => ∃ (k : Nat) (a : Option Addr) (c : Nat), k ≤ n ∧ i = .int .i64 k ∧ wr.cell? ⟨w.heap.size, 0, none⟩ = some (.slice va n vc) ∧ wr.cell? ⟨w.heap.size + 1, 0, none⟩ = some (.slice none 0 0) ∧ wr.frozen? ⟨w.heap.size + 1, 0, none⟩ = false ∧ wr.cell? ⟨w.heap.size + 1 + 1, 0, none⟩ = some (.slice a k c) ∧ wr.frozen? ⟨w.heap.size + 1 + 1, 0, none⟩ = false ∧ w.heap.size + 3 ≤ wr.heap.size ∧ wr.ownsRow (w.heap.size + 3) 75 3 (.slice a k c) k ((l.take k).flatMap srcE) ∧ Ext w wr) (fun i _ => n - (intOf i).toNat)
  case atStart => exact ⟨0, none, 0, Nat.zero_le _, rfl, B0, B1, F1, B2, F2, by rw [HZ.out]; exact Nat.le_refl _, World.ownsRow_nil _ _ _ _, X0⟩
  case round =>
    clear B0 B1 F1 B2 F2 X0
    obtain ⟨k, a, c, hk, rfl, b0, b1, f1, b2, f2, hz, hown, hx⟩ := hrel
    have HO := Lib.hid hown
    clear hown
    by_cases hlt : k < n
    · obtain ⟨x, hxk⟩ : ∃ x, l[k]? = some x := ⟨_, List.getElem?_eq_getElem (by rw [HN.out]; exact hlt)⟩
      obtain ⟨vb, vo, c1, hv1, g0, g1, g2⟩ := src_get (HL.out.ext hx) hxk
      rw [HN.out] at hv1
      simp only [Value.slice.injEq] at hv1
      obtain ⟨rfl, -, rfl⟩ := hv1
      have HS := Lib.hid (HSN.out k x hxk)
      clear hxk
      obtain ⟨x1, x2, x3⟩ := x
      simp only at g0 g1 g2 HS
      have H1 := Lib.hid (show ∀ u ∈ #[Value.int .i64 x1, .int .i64 x2, .int .u64 ((x3 : Nat) : Int)].toList, u.oneCell' = true by simp [Value.oneCell'])
      have hki : (k : Int) < n := by omega
      have y0 : w.heap.size < wr.heap.size := by omega
      have y1 : w.heap.size + 1 < wr.heap.size := by omega
      have y2 : w.heap.size + 1 + 1 < wr.heap.size := by omega
      generalize (l.take k).flatMap srcE = F at *
      go_wp2_with (at_builtin; refine wpList_append_src _ rfl (.tmp 20) (.tmp 28) _ rfl (w.heap.size + 3) 75 i0 _ 3 24 Try.underlying39 hi0 hz0 hz1 hz2 rfl (by omega) _ k _ rfl ((HO.out.alloc _).alloc _) _ 1 1 _ rfl (Src.litB (wr.alloc _) _ 75 3 _ (by simp) rfl H1.out) (by unfold maxLen; omega) (by omega) (by simp; omega) ?_; intro A1 c1 w1 hown1 hg1 hat1; have hbel : Below (w.heap.size + 3) wr w1 := Below.grown (Below.alloc (Below.alloc (Below.refl _ _) hz _) (by simp; omega) _) hg1 (by simp; omega) (fun g hg => (HO.out.lt g hg).1); have X1 : Ext w w1 := Ext.grown ((hx.alloc _).alloc _) hg1 (fun g hg => by have := (HO.out.lt g hg).1; omega); have n0 := (hbel.cell (p := ⟨w.heap.size, 0, none⟩) (by simp only; omega)).trans b0; have n1 := (hbel.cell (p := ⟨w.heap.size + 1, 0, none⟩) (by simp only; omega)).trans b1; have m1 := (hbel.frozen (p := ⟨w.heap.size + 1, 0, none⟩) (by simp only; omega)).trans f1; have n2 := (hbel.cell (p := ⟨w.heap.size + 1 + 1, 0, none⟩) (by simp only; omega)).trans b2; have m2 := (hbel.frozen (p := ⟨w.heap.size + 1 + 1, 0, none⟩) (by simp only; omega)).trans f2; have hz1' : w.heap.size + 3 ≤ w1.heap.size := (by have := hbel.size; omega); have HO1 := Lib.hid hown1; clear hown1 hg1 hat1 hbel)
      rw [HS.out.symm] at HO1
      obtain ⟨g1', rfl, hg1', _⟩ := own_some HO1.out (by omega)
      have HO2 := Lib.hid (own_setCell HO1.out ⟨w.heap.size + 1 + 1, 0, none⟩ (.slice (some ⟨g1', 0, none⟩) (k + 1) c1) (show w.heap.size + 1 + 1 ≠ g1' by omega))
      go_roundw
      case rel => exact ⟨k + 1, _, c1, by omega, by go_num, (World.cell?_setCell_far _ _ _ _ (by simp only; omega)).trans n0, (World.cell?_setCell_far _ _ _ _ (by simp only; omega)).trans n1, by simpa using m1, World.cell?_setCell_same _ _ _ n2, by simpa using m2, by simpa using hz1', HO2.out, X1.setCell (by simp only; omega) _⟩
      case measure => simp [intOf]; omega
    · have hki : ¬ (k : Int) < n := by omega
      have hkn : k = n := by omega
      subst hkn
      rw [HALL.out] at HO
      have HW := Lib.hid (fun (w1 : World) e a c h1 h2 h3 => (⟨a, c, h1, h2, h3⟩ : RetRow 75 w k (l.flatMap srcE) e w1))
      generalize l.flatMap srcE = F at *
      have y1 : w.heap.size + 1 < wr.heap.size := by omega
      go_wp2
      refine bodyPost_ret (v := .agg #[.slice a k c]) (by simp [results, Try.results15, go_sem, b1]) rfl ?_
      refine HW.out _ _ a c rfl (hx.setCell (by simp only; omega) _) ?_
      rcases HO.out.2 with ⟨hv, hk0⟩ | ⟨g, cap, cur, hv, hg, _⟩
      · simp only [Value.slice.injEq] at hv
        obtain ⟨rfl, rfl, rfl⟩ := hv
        exact ⟨HO.out.1, .inl ⟨rfl, rfl⟩⟩
      · simp only [Value.slice.injEq] at hv
        obtain ⟨rfl, -, rfl⟩ := hv
        exact own_base (b := w.heap.size + 3) (own_setCell HO.out ⟨w.heap.size + 1, 0, none⟩ _ (show w.heap.size + 1 ≠ g by omega)) (by omega)
end Go.Proofs.Ytdnoejdhphpieaa
