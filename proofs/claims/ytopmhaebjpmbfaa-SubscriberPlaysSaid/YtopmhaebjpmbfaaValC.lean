/- Same and copies of values: layer 11. -/
import Derived.Test.YtopmhaebjpmbfaaValB
import Derived.Deep.QuietTactic
import Derived.BigQuiet
namespace Go.Proofs.Ytopmhaebjpmbfaa
open Go.RowKit
attribute [local go_sem ↓] Go.wp_at_zero Go.wp_at_succ

/-! ### Same -/
set_option maxRecDepth 100000 in
set_option maxHeartbeats 1000000 in
theorem eqVals_any (a b : List Val) (va vb : Value) (w : World) (ha : RF Any 6 valE w va a) (hb : RF Any 6 valE w vb b) :
    Calls Try.prog 50 #[va, vb] w fun e w' => e = .returned (.bool (decide (a = b))) ∧ Ext w w' := by
  obtain ⟨aa, ac, rfl, hc1, hc2⟩ := ha.form
  obtain ⟨ba, bc, rfl, hd1, hd2⟩ := hb.form
  by_cases hl : a.length = b.length
  · have HA := Lib.hid ha
    have HB := Lib.hid hb
    have HE := Lib.hid (list_eq_of a b hl)
    have HN := Lib.hid (list_ne_at a b)
    have HL := Lib.hid hl
    clear ha hb hd1 hd2
    obtain ⟨r, hr⟩ : ∃ r, decide (a = b) = r := ⟨_, rfl⟩
    rw [hr]
    have HR := Lib.hid hr
    clear hr
    rw [← hl]
    generalize hn : a.length = n at *
    have HNN := Lib.hid hn
    unfold maxLen at hc2
    clear hn hl
    go_enter Try.func50, Try.ntmps50
    go_wp2
    go_loopw [13] (fun i wr => ∃ (k : Nat), k ≤ n ∧ i = .int .i64 k ∧ (∀ (i : Nat) x y, a[i]? = some x → b[i]? = some y → i < k → x = y) ∧ Ext w wr) (fun i _ => n - (intOf i).toNat)
    case atStart => exact ⟨0, Nat.zero_le _, rfl, fun i _ _ _ _ h => by omega, Ext.refl _⟩
    case round =>
      obtain ⟨k, hk1, rfl, hall, hx⟩ := hrel
      have HALL := Lib.hid hall
      clear hall
      by_cases hlt : k < n
      · obtain ⟨x, hxk⟩ : ∃ x, a[k]? = some x := ⟨_, List.getElem?_eq_getElem (by rw [HNN.out]; exact hlt)⟩
        obtain ⟨y, hyk⟩ : ∃ y, b[k]? = some y := ⟨_, List.getElem?_eq_getElem (by rw [← HL.out]; exact hlt)⟩
        obtain ⟨b1, o1, c1, hv1, g0, g1, g2, g3, g4, g5⟩ := val_get (HA.out.ext hx) hxk
        obtain ⟨b2, o2, c2, hv2, f0, f1, f2, f3, f4, f5⟩ := val_get (HB.out.ext hx) hyk
        rw [HNN.out] at hv1
        rw [← HL.out] at hv2
        simp only [Value.slice.injEq] at hv1 hv2
        obtain ⟨rfl, -, rfl⟩ := hv1
        obtain ⟨rfl, -, rfl⟩ := hv2
        have hne := fun w1 => neq_val x y w1
        obtain ⟨r, hr'⟩ : ∃ r, decide (x = y) = r := ⟨_, rfl⟩
        rw [hr'] at hne
        have HQ := Lib.hid hr'
        have HXK := Lib.hid hxk
        have HYK := Lib.hid hyk
        clear hr' hxk hyk
        obtain ⟨x1, x2, x3, x4, x5, x6⟩ := x
        obtain ⟨y1, y2, y3, y4, y5, y6⟩ := y
        simp only at *
        have hki : (k : Int) < n := by omega
        cases r
        · go_wp2
          go_quiet (fail)
          go_wp2
          go_ret
          refine ⟨ret_bool ?_, hx.drewN _⟩
          rw [← HR.out]
          exact (decide_eq_false (HN.out k _ _ HXK.out HYK.out (of_decide_eq_false HQ.out))).symm
        · go_wp2
          go_quiet (fail)
          go_wp2
          go_roundw
          case rel => exact ⟨k + 1, by omega, by go_num, fun i x y h1 h2 hi => by
            rcases Nat.lt_or_ge i k with h | h
            · exact HALL.out i x y h1 h2 h
            · have hik : i = k := by omega
              subst hik
              have e1 := HXK.out
              have e2 := HYK.out
              rw [h1] at e1
              rw [h2] at e2
              injection e1 with e1
              injection e2 with e2
              rw [e1, e2]
              exact of_decide_eq_true HQ.out, hx.drewN _⟩
          case measure => simp [intOf]; omega
      · go_wp2
        go_ret
        refine ⟨ret_bool ?_, hx⟩
        rw [← HR.out]
        exact (decide_eq_true (HE.out fun i x y h1 h2 => HALL.out i x y h1 h2 (by have := (List.getElem?_eq_some_iff.1 h1).1; rw [HNN.out] at this; omega))).symm
  · have hl1 : ((a.length : Int) != (b.length : Int)) = true := by simp only [bne_iff_ne, ne_eq]; omega
    have hl2 : ((a.length : Int) == (b.length : Int)) = false := by simp only [beq_eq_false_iff_ne, ne_eq]; omega
    have hz : decide (a = b) = false := by simp only [decide_eq_false_iff_not]; intro h; exact hl (by rw [h])
    rw [hz]
    clear hz
    generalize a.length = n at *
    generalize b.length = m at *
    go_enter Try.func50, Try.ntmps50
    go_wp2
    go_ret
    exact ⟨rfl, Ext.refl _⟩
theorem sameVals_any (a b : List Val) (va vb : Value) (w : World) (ha : RF Any 6 valE w va a) (hb : RF Any 6 valE w vb b) :
    Calls Try.prog 21 #[va, vb] w fun e w' => e = .returned (.bool (decide (a = b))) ∧ Ext w w' := by
  have H := Lib.hid (eqVals_any a b va vb w ha hb)
  obtain ⟨aa, ac, rfl, _, _⟩ := ha.form
  obtain ⟨ba, bc, rfl, _, _⟩ := hb.form
  generalize decide (a = b) = r at *
  generalize a.length = na at *
  generalize b.length = nb at *
  clear ha hb
  go_enter Try.func21, Try.ntmps21
  go_wp2_with (go_at_call 50; refine H.out.mono ?_; rintro e w1 ⟨rfl, hx1⟩)
  go_ret
  exact ⟨rfl, hx1⟩

/-! ### Copies -/
theorem info_val : (Try.prog.info? 47).map (fun i => (i.zero, i.size, i.bytes)) = some (some (.agg #[.int .i64 0, .int .i64 0, .string ⟨#[]⟩, .int .i64 0, .int .i64 0, .int .i64 0]), 6, 56) := by kernel_rfl
/-- It returns values in new memory. -/
def RetV (w : World) (l : List Val) (en : Ending) (w' : World) : Prop := ∃ a c, en = .returned (.slice a l.length c) ∧ Ext w w' ∧ RF (Old w) 6 valE w' (.slice a l.length c) l
@[local go_sem] theorem eql_nil_val (w : World) (a : Option Addr) (n c : Nat) : (binOp .eql 26 (.slice a n c) (.slice none 0 0)).run Try.prog w = .ok (.bool a.isNone) w := Lib.run_eql_slice_nil w _ _ a n c 0 0 Try.underlying26
set_option maxHeartbeats 2000000 in
theorem cloneVals_any {V : Nat → Prop} (l : List Val) (v : Value) (w : World) (h : RF V 6 valE w v l) (hl : l.length ≤ 1000000000) : Calls Try.prog 54 #[v] w (RetV w l) := by
  obtain ⟨i0, hi0, hz0, hz1, hz2⟩ := info_parts info_val
  obtain ⟨a, c, rfl, hc1, hc2⟩ := h.form
  cases a with
  | none =>
    have hb : l = [] := by
      cases l with
      | nil => rfl
      | cons x r =>
        obtain ⟨b, off, c', hv, _⟩ := h.at_ (i := 0) (by simp)
        simp at hv
    subst hb
    clear hc1 hc2 hl
    go_enter Try.func54, Try.ntmps54
    go_wp2
    go_ret
    exact ⟨none, 0, rfl, Ext.refl _, RF.nil _ _ _ _⟩
  | some a =>
    have HSRC := Lib.hid ((h.ext ((Ext.refl w).alloc (.cells #[] 47))).src (by omega) valE_one).2
    have HL0 := Lib.hid (World.ownsRow_lit (base := w.heap.size) (e := 47) (size := 6) w #[] 0 (Nat.le_refl _) (by unfold maxLen; omega) rfl)
    have HO : Hid (∀ (w1 : World) (A1 : Option Addr) (c1 : Nat), w1.ownsRow w.heap.size 47 6 (.slice A1 l.length c1) l.length (l.flatMap valE) → Ext w w1 → RetV w l (.returned (.slice A1 l.length c1)) w1) := fun w1 A1 c1 ho he => ⟨A1, c1, rfl, he, RF.of_own valE_len ho (fun _ h => h)⟩
    generalize l.flatMap valE = ms at *
    generalize l.length = n at *
    clear h hc1 hc2
    go_enter Try.func54, Try.ntmps54
    go_wp2_with (at_builtin; refine wpList_append_src _ rfl (.tmp 5) (.tmp 6) _ rfl w.heap.size 47 i0 _ 6 56 Try.underlying26 hi0 hz0 hz1 hz2 rfl (by omega) _ 0 [] rfl HL0.out _ n c _ rfl HSRC.out (by unfold maxLen; omega) (by omega) (by simp) ?_; intro A1 c1 w1 hown1 hg1 hat1; have hE1 : Ext w w1 := ((Ext.refl w).alloc _).grown hg1 (fun g hg => (HL0.out.lt g hg).1); simp only [Nat.zero_add, List.nil_append] at hown1 hat1)
    go_ret
    exact HO.out w1 A1 c1 hown1 hE1
set_option maxHeartbeats 2000000 in
theorem dupP_any {V : Nat → Prop} (l : List Val) (v : Value) (w : World) (h : RF V 6 valE w v l) (hl : l.length ≤ 1000000000) : Calls Try.prog 44 #[v] w (RetV w l) := by
  obtain ⟨i0, hi0, hz0, hz1, hz2⟩ := info_parts info_val
  obtain ⟨a, c, rfl, hc1, hc2⟩ := h.form
  obtain ⟨cur, hcur⟩ : ∃ cur : Array Value, madeCells (Value.agg #[.int .i64 0, .int .i64 0, .string ⟨#[]⟩, .int .i64 0, .int .i64 0, .int .i64 0]).cells (l.length * 6) = cur := ⟨_, rfl⟩
  have hcs : cur.size = l.length * 6 := by rw [← hcur]; exact size_madeCells _ _
  have HMK : Hid (∀ W : World, (Instr.makeSlice 26 (.int .i64 (l.length : Int)) (.int .i64 (l.length : Int))).run Try.prog W = .ok (.slice (some ⟨W.heap.size, 0, none⟩) l.length l.length) (W.alloc (.cells cur 47))) := fun W => by
    have := run_make (P := Try.prog) W 26 47 i0 _ Try.underlying26 hi0 hz0 .i64 .i64 l.length l.length (by omega) (Int.le_refl _) (by rw [hz2]; omega) (by omega)
    simp only [Int.toNat_natCast, hz1, hcur] at this
    exact this
  have HSRC := Lib.hid (fun (w1 : World) (he : Ext w w1) => ((h.ext he).src (by omega) valE_one).2)
  have HO : Hid (∀ (w1 : World), w1.heap[w.heap.size]? = some (.cells (l.flatMap valE).toArray 47 (0, 0)) → Ext w w1 → RetV w l (.returned (.slice (some ⟨w.heap.size, 0, none⟩) l.length l.length)) w1) := fun w1 hh he => ⟨_, _, rfl, he, RF.of_own (base := w.heap.size) (e := 47) valE_len ⟨flat_len valE_len l, .inr ⟨w.heap.size, l.length, _, rfl, Nat.le_refl _, hh, Nat.le_refl _, by unfold maxLen; omega, by simp [flat_len valE_len l], by rw [List.toList_toArray]; exact List.take_of_length_le (by rw [flat_len valE_len]; exact Nat.le_refl _)⟩⟩ (fun _ h => h)⟩
  have hfl := flat_len valE_len l
  generalize l.flatMap valE = ms at *
  generalize l.length = n at *
  have hmk := HMK.out
  clear h hc1 hc2 hcur HMK
  have HCUR := Lib.hid hcs
  have HFL := Lib.hid hfl
  clear hcs hfl
  have hsz : (Try.prog.info? 47).map (·.size) = some 6 := by rw [hi0]; simp [hz1]
  have HS := Lib.hid (HSRC.out (w.alloc (.cells cur 47)) ((Ext.refl w).alloc _))
  have HG : Hid ((w.alloc (.cells cur 47)).heap[w.heap.size]? = some (.cells cur.toList.toArray 47 (0, 0))) := heap_alloc_new w _
  have HP : Hid (0 < ms.length → ∃ ad, a = some ad ∧ ∀ j v, ms[j]? = some v → (w.alloc (.cells cur 47)).cell? (ad.add j) = some v) := fun hp => by
    cases a with
    | none => have := HS.out.none_ rfl; have := HFL.out; omega
    | some ad => exact ⟨ad, rfl, HS.out.cell ad rfl⟩
  have HSPL := Lib.hid (show splice cur.toList 0 ms = ms by
    have h1 : cur.toList.length ≤ 0 + ms.length := by have := HFL.out; have := HCUR.out; simp; omega
    unfold splice
    rw [List.take_zero, List.nil_append, List.drop_eq_nil_of_le h1, List.append_nil])
  clear HSRC hi0 hz0 hz1 hz2
  go_enter Try.func44, Try.ntmps44
  go_wp2_with (refine wpList_copyK rfl (.tmp 7) (.tmp 8) 26 26 rfl 47 6 Try.underlying26 hsz (by omega) (some ⟨w.heap.size, 0, none⟩) a n n n c rfl rfl w.heap.size 0 cur.toList 47 HG.out ms (by rw [HFL.out]; simp) (fun hp => ⟨rfl, HP.out hp⟩) (by simp [HFL.out, HCUR.out]) HS.out.one ?_; intro w1 hg1 hgr1)
  go_ret
  have h2 := hg1.out
  rw [HSPL.out] at h2
  exact HO.out w1 h2 (((Ext.refl w).alloc _).grown hgr1 (fun g hg => by injection hg with hg; omega))
end Go.Proofs.Ytopmhaebjpmbfaa
