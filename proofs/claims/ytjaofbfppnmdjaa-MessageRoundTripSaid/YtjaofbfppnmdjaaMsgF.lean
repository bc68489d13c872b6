/- Encode of messages: layer 12. -/
import Derived.Test.YtjaofbfppnmdjaaMsgE
namespace Go.Proofs.Ytjaofbfppnmdjaa
open Go.RowKit
attribute [local go_sem ↓] Go.wp_at_zero Go.wp_at_succ

set_option maxRecDepth 100000 in
set_option maxHeartbeats 8000000 in
theorem encMP_any (m : Msg) (v : Value) (w : World) (hv : RF Any 6 valE w v m.vals) : Calls Try.prog 37 #[msgA m v] w (RetBE w (encMB m) (encME m)) := by
  have HC := Lib.hid (fun w1 (he : Ext w w1) => checkM_any m v w1 (hv.ext he))
  by_cases hc : chkM m = 0
  · obtain ⟨i0, hi0, hz0, hz1, hz2⟩ := info_parts info_nodeP
    obtain ⟨_, hst, hl24, hve⟩ := chkM_zero m hc
    have HH := Lib.hid (fun w1 => header_any m v w1)
    have HN1 := Lib.hid (fun w1 v1 (h : RF (Old w) 6 valE w1 v1 (headM m)) => nodesP_own 1 (headM m) v1 w1 h (by simp [headM]))
    have HN2 := Lib.hid (fun w1 (he : Ext w w1) => nodesP_any 0 m.vals v w1 (hv.ext he) (by omega))
    have HV1 := Lib.hid (vErr_head m hst)
    have HV2 := Lib.hid hve
    have hEB : encMB m = encOut 3 [nodeM m] := by unfold encMB; rw [if_pos hc]
    have hEE : encME m = encErr 3 [nodeM m] := by unfold encME; rw [if_pos hc]
    rw [hEB, hEE]
    have HE := Lib.hid (fun w1 v1 (h : (RkN 3).rk Any w1 v1 [nodeM m]) => encodeP_any 3 Any [nodeM m] v1 w1 h (Nat.le_trans (cnt_msg m hc) (by omega)))
    generalize encOut 3 [nodeM m] = EB at *
    generalize encErr 3 [nodeM m] = EE at *
    rw [hc] at HC
    have hlh : (headM m).length = 7 := rfl
    generalize hhd : headM m = hd at *
    have HK : Hid (kidsM m = reTag (α := Nd 1) 7 (hd.map (nodeV 1)) ++ [((167, [], m.vals.map (nodeV 0)) : NodeOf (Nd 1))]) := by rw [← hhd]; rfl
    have HNM : Hid (nodeM m = ((97, [], kidsM m) : NodeOf (Nd 2))) := rfl
    have HLH := Lib.hid hlh
    obtain ⟨a, c, rfl, hc1, hc2⟩ := hv.form
    generalize kidsM m = km at *
    generalize nodeM m = nm at *
    clear hEB hEE hst hve hc hv hhd hlh
    obtain ⟨m1, m2, m3, m4, m5, m6, m7, m8, m9, vs⟩ := m
    simp only at *
    generalize hn : vs.length = n at *
    have HNN := Lib.hid hn
    clear hn
    go_enter Try.func37, Try.ntmps37
    go_upto_region 1 with fail
    have BV := Bk.new w #[.int .i64 m1, .int .i64 m2, .int .i64 m3, .int .i64 m4, .int .i64 m5, .int .i64 m6, .int .i64 m7, .bool m8, .int .i64 m9, .slice a n c] 71 w.heap.size rfl
    have X0 : Ext w (w.alloc (.cells #[.int .i64 m1, .int .i64 m2, .int .i64 m3, .int .i64 m4, .int .i64 m5, .int .i64 m6, .int .i64 m7, .bool m8, .int .i64 m9, .slice a n c] 71)) := (Ext.refl w).alloc _
    generalize w.alloc (.cells #[.int .i64 m1, .int .i64 m2, .int .i64 m3, .int .i64 m4, .int .i64 m5, .int .i64 m6, .int .i64 m7, .bool m8, .int .i64 m9, .slice a n c] 71) = W at *
    have q1 : ∀ j, W.cell? ⟨w.heap.size, j, none⟩ = (#[.int .i64 m1, .int .i64 m2, .int .i64 m3, .int .i64 m4, .int .i64 m5, .int .i64 m6, .int .i64 m7, .bool m8, .int .i64 m9, .slice a n c] : Array Value)[j]? := BV.cell
    go_wp2_with fail
    refine (HC.out _ X0).mono ?_
    rintro e w2 ⟨rfl, x2⟩
    have q2 : ∀ j, w2.cell? ⟨w.heap.size, j, none⟩ = (#[.int .i64 m1, .int .i64 m2, .int .i64 m3, .int .i64 m4, .int .i64 m5, .int .i64 m6, .int .i64 m7, .bool m8, .int .i64 m9, .slice a n c] : Array Value)[j]? := (BV.ext x2).cell
    clear q1
    go_wp2_with fail
    refine (HH.out _).mono ?_
    rintro e w3 ⟨a3, c3, he3, x3, r3⟩
    rw [HLH.out] at he3 r3
    subst he3
    have HCN := Lib.hid (HN1.out w3 _ (r3.weak (by omega) (fun g _ hg => (X0.trans x2).lt hg)))
    clear q2 r3 HN1 HH HC
    go_wp2_with fail
    refine HCN.out.mono ?_
    rintro e w4 (⟨h0, _⟩ | ⟨_, a4, c4, he4, x4, r4⟩)
    · exact absurd HV1.out h0
    rw [HLH.out] at he4 r4
    subst he4
    obtain ⟨g, c5, cur, hv5, hg5, hb5, hs5⟩ := r4.blk (by rw [List.length_map, HLH.out]; omega)
    rw [List.length_map, HLH.out] at hv5 hs5
    simp only [Value.slice.injEq, true_and] at hv5
    obtain ⟨rfl, rfl⟩ := hv5
    have X3 : Ext W w3 := x2.trans x3
    have HX4 := Lib.hid x4
    have HB4 := Lib.hid r4
    have HG5 := Lib.hid hg5
    clear r4 hb5 hs5 HCN x4 x3 x2 cur
    go_wp2_with fail
    go_loopw [25] (fun i wr => ∃ (k : Nat), k ≤ 7 ∧ i = .int .i64 k ∧ Built (RkN 1) (Old w3) w3.heap.size 45 wr (.slice (some ⟨g, 0, none⟩) 7 c4) (reTag (α := Nd 1) k (hd.map (nodeV 1))) ∧ Ext w3 wr) (fun i _ => 7 - (intOf i).toNat)
    case atStart => exact ⟨0, by omega, rfl, by rw [reTag_zero]; exact HB4.out, HX4.out⟩
    case round =>
      obtain ⟨k, hk, rfl, hbt, hx⟩ := hrel
      by_cases hlt : k < 7
      · have hki : (k : Int) < 7 := by omega
        have hlr : (reTag (α := Nd 1) k (hd.map (nodeV 1))).length = 7 := by rw [reTag_len, List.length_map, HLH.out]
        obtain ⟨g', c', cur, hv', _, hbk, hsz⟩ := hbt.blk (by rw [hlr]; omega)
        simp only [Value.slice.injEq, Option.some.injEq, Addr.mk.injEq, and_true] at hv'
        obtain ⟨rfl, _, rfl⟩ := hv'
        rw [hlr] at hsz
        obtain ⟨x0, hx0⟩ : ∃ x0, cur[k * 3]? = some x0 := ⟨_, Array.getElem?_eq_getElem (by omega)⟩
        have qk : wr.cell? ⟨g, k * 3, none⟩ = some x0 := (hbk.cell (k * 3)).trans hx0
        have fk := hbk.frozen (k * 3)
        have HBT := Lib.hid hbt
        have HX := Lib.hid hx
        clear hbt hbk hsz hx0 hx hlr
        go_wp2_with fail
        go_roundw
        case rel =>
          refine ⟨k + 1, by omega, by go_num, ?_, HX.out.setCell (by exact HG5.out) _⟩
          rw [reTag_next k _ (by rw [List.length_map, HLH.out]; exact hlt)]
          exact HBT.out.setTag k (by rw [reTag_len, List.length_map, HLH.out]; exact hlt) _
        case measure => simp [intOf]; omega
      · have hki : ¬ (k : Int) < 7 := by omega
        obtain rfl : k = 7 := by omega
        have q5 : ∀ j, wr.cell? ⟨w.heap.size, j, none⟩ = (#[.int .i64 m1, .int .i64 m2, .int .i64 m3, .int .i64 m4, .int .i64 m5, .int .i64 m6, .int .i64 m7, .bool m8, .int .i64 m9, .slice a n c] : Array Value)[j]? := (BV.ext (X3.trans hx)).cell
        have HCV := Lib.hid (HN2.out wr ((X0.trans X3).trans hx))
        have HBT := Lib.hid hbt
        have HX := Lib.hid hx
        clear hbt hx
        go_wp2_with fail
        refine HCV.out.mono ?_
        rintro e w6 (⟨h0, _⟩ | ⟨_, a6, c6, he6, x6, r6⟩)
        · exact absurd HV2.out h0
        rw [HNN.out] at he6 r6
        subst he6
        obtain ⟨flat, hown, hgrow⟩ := HBT.out.grow
        have hlr : (reTag (α := Nd 1) 7 (hd.map (nodeV 1))).length = 7 := by rw [reTag_len, List.length_map, HLH.out]
        rw [hlr] at hown hgrow
        have HOW := Lib.hid (own_ext hown x6)
        have HGR := Lib.hid hgrow
        have HWL := Lib.hid (With.lt (V := Old w3) (fun k hk => Nat.lt_of_lt_of_le hk HX.out.size) hown)
        go_wp2_with (at_builtin; refine wpList_append_src _ rfl (.tmp 44) (.tmp 47) _ rfl w3.heap.size 45 i0 _ 3 56 Try.underlying32 hi0 hz0 hz1 hz2 rfl (by omega) _ 7 flat rfl (HOW.out.alloc _) _ 1 1 [.int .i64 167, .slice none 0 0, .slice a6 n c6] rfl (Src.litB _ #[.int .i64 167, .slice none 0 0, .slice a6 n c6] _ 3 _ (by simp) rfl (by simp [Value.oneCell'])) (by unfold maxLen; omega) (by omega) (by simp; exact Nat.le_succ_of_le (HX.out.trans x6).size) ?_; intro A7 c7 w7 hown7 hg7 hat7)
        have HB7 := Lib.hid (HGR.out ((167, [], vs.map (nodeV 0)) : NodeOf (Nd 1)) [.int .i64 167, .slice none 0 0, .slice a6 n c6] _ w7 _ (x6.alloc _) rfl ⟨_, _, rfl, RB.nil _ _, (RkN 1).weak ((RkN 1).ext r6 ((Ext.refl _).alloc _)) (fun k _ hk => HWL.out k hk)⟩ hown7 hg7 hat7)
        have X7 : Ext w3 w7 := ((HX.out.trans x6).alloc _).grown hg7 (fun k hk => (HOW.out.lt k hk).1)
        rw [← HK.out] at HB7
        have HM7 : Hid (∀ B, w7.heap.size = B → (RkN 3).rk Any (w7.alloc (.cells #[.int .i64 97, .slice none 0 0, .slice A7 8 c7] 45)) (.slice (some ⟨B, 0, none⟩) 1 1) [nm]) := fun B hB => by
          rw [HNM.out]
          refine RS.one _ _ _ _ hB _ rfl ⟨_, _, rfl, RB.nil _ _, ?_⟩ (fun h => h)
          exact (RkN 2).ext ((RkN 2).weak (HB7.out.done (fun k hk => hk)) (fun k _ hk => hk.elim)) ((Ext.refl _).alloc _)
        have HE7 := Lib.hid (HE.out _ _ (HM7.out _ rfl))
        clear hown7 hg7 hat7 hown hgrow r6 q5
        go_wp2_with fail
        refine HE7.out.mono ?_
        rintro e w8 ⟨a8, c8, rfl, x8, r8⟩
        have XX := (((X0.trans X3).trans X7).alloc _).trans x8
        go_wp2_with fail
        go_ret2
        exact ⟨a8, c8, rfl, XX, fun V hV => r8 V (fun k hk => by have := ((X0.trans X3).trans X7).lt (hV k hk); simp; omega)⟩
  · have hEB : encMB m = [] := by unfold encMB; rw [if_neg hc]
    have hEE : encME m = chkM m := by unfold encME; rw [if_neg hc]
    rw [hEB, hEE]
    have hcb : (chkM m != 0) = true := by simpa using hc
    generalize chkM m = ce at *
    obtain ⟨a, c, rfl, hc1, hc2⟩ := hv.form
    clear hv hEB hEE hc hc1 hc2
    obtain ⟨m1, m2, m3, m4, m5, m6, m7, m8, m9, vs⟩ := m
    simp only at *
    generalize vs.length = n at *
    go_enter Try.func37, Try.ntmps37
    go_wp2_with fail
    refine (HC.out _ ((Ext.refl w).alloc _)).mono ?_
    rintro e w1 ⟨rfl, x1⟩
    go_wp2_with fail
    go_ret2
    exact RetBE.nil _ (((Ext.refl w).alloc _).trans x1)
end Go.Proofs.Ytjaofbfppnmdjaa
