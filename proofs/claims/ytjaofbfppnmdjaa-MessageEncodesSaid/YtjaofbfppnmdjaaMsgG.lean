/- parts and Encode of the reference: layer 12. -/
import Derived.Test.YtjaofbfppnmdjaaMsgF
import Derived.Test.YtjaofbfppnmdjaaDatU
namespace Go.Proofs.Ytjaofbfppnmdjaa
open Go.RowKit
attribute [local go_sem ↓] Go.wp_at_zero Go.wp_at_succ


set_option maxRecDepth 100000 in
set_option maxHeartbeats 8000000 in
theorem partsR_any (m : Msg) (u : Value) (w : World) : Calls Try.prog 59 #[msgA m u] w (RetV w (headM m)) := by
  obtain ⟨cm, hcm⟩ : ∃ cm, RetV w (headM m) = cm := ⟨_, rfl⟩
  rw [hcm]
  have HF : Hid (∀ w1 cs, Ext w w1 → cs.toList = (headM m).flatMap valE → cm (.returned (.slice (some ⟨w1.heap.size, 0, none⟩) 7 7)) (w1.alloc (.cells cs 54))) := hcm ▸ fun w1 cs he hc => ⟨_, _, rfl, he.alloc _, (RF.many w1 cs 54 (headM m) _ rfl hc (by simp [headM])).weak (by omega) (fun g _ hg => he.lt hg)⟩
  clear hcm
  obtain ⟨m1, m2, m3, m4, m5, m6, m7, m8, m9, vm⟩ := m
  have H5 := Lib.hid (fun w1 => truthR_any m8 w1)
  simp only [headM, tru] at HF
  obtain ⟨tb, htb⟩ : ∃ tb : Int, (if m8 then 1 else 0) = tb := ⟨_, rfl⟩
  rw [htb] at HF H5
  clear htb
  try simp only at *
  go_enter Try.func59, Try.ntmps59
  go_upto_region 1 with fail
  have BV := Bk.new w #[.int .i64 m1, .int .i64 m2, .int .i64 m3, .int .i64 m4, .int .i64 m5, .int .i64 m6, .int .i64 m7, .bool m8, .int .i64 m9, u] 75 w.heap.size rfl
  have X0 : Ext w (w.alloc (.cells #[.int .i64 m1, .int .i64 m2, .int .i64 m3, .int .i64 m4, .int .i64 m5, .int .i64 m6, .int .i64 m7, .bool m8, .int .i64 m9, u] 75)) := (Ext.refl w).alloc _
  generalize w.alloc (.cells #[.int .i64 m1, .int .i64 m2, .int .i64 m3, .int .i64 m4, .int .i64 m5, .int .i64 m6, .int .i64 m7, .bool m8, .int .i64 m9, u] 75) = W at *
  have HBC : Hid (∀ w', Ext W w' → ∀ j, w'.cell? ⟨w.heap.size, j, none⟩ = (#[.int .i64 m1, .int .i64 m2, .int .i64 m3, .int .i64 m4, .int .i64 m5, .int .i64 m6, .int .i64 m7, .bool m8, .int .i64 m9, u] : Array Value)[j]?) := fun w' he => (BV.ext he).cell
  clear BV
  go_region_held3 (fun w' => ∀ j, w'.cell? ⟨w.heap.size, j, none⟩ = (#[.int .i64 m1, .int .i64 m2, .int .i64 m3, .int .i64 m4, .int .i64 m5, .int .i64 m6, .int .i64 m7, .bool m8, .int .i64 m9, u] : Array Value)[j]?)
    (first | (exact HBC.out _ (by first | (with_reducible exact (Ext.refl W).drew) | (with_reducible exact D5) | (with_reducible exact D5.alloc _) | fail)) | fail)
    (first
      | (go_at_call 30; (with_reducible refine (H5.out _).mono ?_); rintro e y5 ⟨rfl, g5⟩; have D5 : Ext W y5 := (Ext.refl W).drew.trans g5; clear g5)
      | fail)
  all_goals
    go_wp2_with fail
    exact HF.out _ _ (X0.trans D5) rfl

theorem Built.other {α : Type} {R : Rk α} {V : Nat → Prop} {base : Nat} {e : TypeId} {w : World} {l : List (NodeOf α)} {v : Value} (h : Built R V base e w v l) {B : Nat} (hV : V B) (hB : B < base) (j : Nat) (u : Value) : Built R V base e (w.setCell ⟨B, j, none⟩ u) v l := by
  obtain ⟨css, hown, hlen, h3, hrep⟩ := h
  refine ⟨css, ⟨hown.1, ?_⟩, hlen, h3, fun i h1 h2 => (hrep i h1 h2).agree (agree_setCell (p := ⟨B, j, none⟩) (Or.inl hV) u)⟩
  rcases hown.2 with hn | ⟨g, cap, cur, rfl, hb, hg, rest⟩
  · exact .inl hn
  · exact .inr ⟨g, cap, cur, rfl, hb, (show Bk w g e cur from hg).setOther (by omega) j u, rest⟩
theorem reTag_get {α : Type} (k : Nat) (l : List (NodeOf α)) (i : Nat) (hi : i < k) (x : NodeOf α) (hx : l[i]? = some x) : (reTag k l)[i]? = some (128 + (i : Int), x.2) := by
  simp [reTag, List.getElem?_mapIdx, hx, hi]
set_option maxRecDepth 100000 in
set_option maxHeartbeats 8000000 in
theorem encMR_any (m : Msg) (v : Value) (w : World) (hv : RF Any 6 valE w v m.vals) : Calls Try.prog 38 #[msgA m v] w (RetBE w (encMB m) (encME m)) := by
  have HC := Lib.hid (fun w1 (he : Ext w w1) => checkMR_any m v w1 (hv.ext he))
  by_cases hc : chkM m = 0
  · obtain ⟨i0, hi0, hz0, hz1, hz2⟩ := info_parts info_rnode
    obtain ⟨_, hst, hl24, hve⟩ := chkM_zero m hc
    have HH := Lib.hid (fun w1 => partsR_any m v w1)
    have HN2 := Lib.hid (fun w1 (he : Ext w w1) => nodesR_any 0 m.vals v w1 (hv.ext he) (by omega))
    have HV1 := Lib.hid (vErr_zero _ (vErr_head m hst))
    have HV2 := Lib.hid hve
    have hEB : encMB m = encOut 3 [nodeM m] := by unfold encMB; rw [if_pos hc]
    have hEE : encME m = encErr 3 [nodeM m] := by unfold encME; rw [if_pos hc]
    rw [hEB, hEE]
    have HE := Lib.hid (fun w1 v1 (h : (RkN 3).rk Any w1 v1 [nodeM m]) => encodeR_any 3 Any [nodeM m] v1 w1 h (Nat.le_trans (cnt_msg m hc) (by omega)))
    generalize encOut 3 [nodeM m] = EB at *
    generalize encErr 3 [nodeM m] = EE at *
    rw [hc] at HC
    have hlh : (headM m).length = 7 := rfl
    generalize hhd : headM m = hd at *
    have HK : Hid (kidsM m = reTag (α := Nd 1) 7 (hd.map (nodeV 1)) ++ [((167, [], m.vals.map (nodeV 0)) : NodeOf (Nd 1))]) := by rw [← hhd]; rfl
    have HNM : Hid (nodeM m = ((97, [], kidsM m) : NodeOf (Nd 2))) := rfl
    have HLH := Lib.hid hlh
    obtain ⟨a, c, rfl, hc1, hc2⟩ := hv.form
    generalize kidsM m = km at *
    generalize nodeM m = nm at *
    have hlL : (reTag (α := Nd 1) 7 (hd.map (nodeV 1))).length = 7 := by rw [reTag_len, List.length_map, hlh]
    have HLG : Hid (∀ (i : Nat) x, hd[i]? = some x → i < 7 → (reTag (α := Nd 1) 7 (hd.map (nodeV 1)))[i]? = some ((128 + (i : Int), datV x, []) : NodeOf (Nd 1))) := fun i x hx hi => by
      rw [reTag_get 7 _ i hi (nodeV 1 x) (by rw [List.getElem?_map, hx]; rfl)]
      rfl
    generalize reTag (α := Nd 1) 7 (hd.map (nodeV 1)) = L at *
    have HLL := Lib.hid hlL
    clear hEB hEE hst hve hc hv hhd hlh hlL
    obtain ⟨m1, m2, m3, m4, m5, m6, m7, m8, m9, vs⟩ := m
    simp only at *
    generalize hn : vs.length = n at *
    have HNN := Lib.hid hn
    clear hn
    go_enter Try.func38, Try.ntmps38
    go_upto_region 1 with fail
    have BV := Bk.new w #[.int .i64 m1, .int .i64 m2, .int .i64 m3, .int .i64 m4, .int .i64 m5, .int .i64 m6, .int .i64 m7, .bool m8, .int .i64 m9, .slice a n c] 75 w.heap.size rfl
    have X0 : Ext w (w.alloc (.cells #[.int .i64 m1, .int .i64 m2, .int .i64 m3, .int .i64 m4, .int .i64 m5, .int .i64 m6, .int .i64 m7, .bool m8, .int .i64 m9, .slice a n c] 75)) := (Ext.refl w).alloc _
    generalize w.alloc (.cells #[.int .i64 m1, .int .i64 m2, .int .i64 m3, .int .i64 m4, .int .i64 m5, .int .i64 m6, .int .i64 m7, .bool m8, .int .i64 m9, .slice a n c] 75) = W at *
    have q1 : ∀ j, W.cell? ⟨w.heap.size, j, none⟩ = (#[.int .i64 m1, .int .i64 m2, .int .i64 m3, .int .i64 m4, .int .i64 m5, .int .i64 m6, .int .i64 m7, .bool m8, .int .i64 m9, .slice a n c] : Array Value)[j]? := BV.cell
    go_wp2_with fail
    refine (HC.out _ X0).mono ?_
    rintro e w1 ⟨rfl, x1⟩
    have B1 := BV.ext x1
    have X1 : Ext w w1 := X0.trans x1
    clear q1 x1 X0 BV
    go_upto_region 5 with fail
    have BX := Bk.new w1 #[.int .i64 97, .slice none 0 0, .slice none 0 0] 98 w1.heap.size rfl
    have x2 : Ext w1 (w1.alloc (.cells #[.int .i64 97, .slice none 0 0, .slice none 0 0] 98)) := (Ext.refl w1).alloc _
    have hlx : w.heap.size < w1.heap.size := B1.lt
    generalize w1.alloc (.cells #[.int .i64 97, .slice none 0 0, .slice none 0 0] 98) = w2 at *
    generalize hX : w1.heap.size = X at *
    have B2 := B1.ext x2
    have HXN := Lib.hid hX
    clear hX
    have q2 : ∀ j, w2.cell? ⟨w.heap.size, j, none⟩ = (#[.int .i64 m1, .int .i64 m2, .int .i64 m3, .int .i64 m4, .int .i64 m5, .int .i64 m6, .int .i64 m7, .bool m8, .int .i64 m9, .slice a n c] : Array Value)[j]? := B2.cell
    go_wp2_with fail
    refine (HH.out _).mono ?_
    rintro e w3 ⟨a3, c3, he3, x3, r3⟩
    rw [HLH.out] at he3 r3
    subst he3
    have HR3 := Lib.hid (r3.weak (V' := fun k => k = X) (by omega) (fun g _ hg => by subst hg; exact BX.lt))
    have B3 := Lib.hid (B2.ext x3)
    have BX3 := Lib.hid (BX.ext x3)
    have X3 := Lib.hid ((X1.trans x2).trans x3)
    have hlX : X < w3.heap.size := Nat.lt_of_lt_of_le BX.lt x3.size
    have hwX : w.heap.size ≤ X := by omega
    clear q2 r3 B1 B2 BX x2 x3 X1 HH HC
    go_wp2_with fail
    go_loopw [7] (fun i wr => ∃ (k : Nat) (ov : Value), k ≤ 7 ∧ i = .int .i64 k ∧ Bk wr X 98 #[.int .i64 97, .slice none 0 0, ov] ∧ Built (RkN 1) (Old w3) w3.heap.size 98 wr ov (L.take k) ∧ Agree (fun k => k = X) w3 wr ∧ Ext w wr) (fun i _ => 7 - (intOf i).toNat)
    case atStart => exact ⟨0, _, by omega, rfl, BX3.out, Built.nil _ _ _ _ _, Agree.refl _ _, X3.out⟩
    case round =>
      obtain ⟨k, ov, hk, rfl, hbx, hbt, hag, hx⟩ := hrel
      have hgb := Lib.hid hag
      have HX := Lib.hid hx
      have HSZ : Hid (w3.heap.size ≤ wr.heap.size) := hag.size
      by_cases hlt : k < 7
      · have hki : (k : Int) < 7 := by omega
        obtain ⟨xv, hxv⟩ : ∃ x, hd[k]? = some x := ⟨_, List.getElem?_eq_getElem (by rw [HLH.out]; exact hlt)⟩
        obtain ⟨b, off, c', hv, g0, g1, g2, g3, g4, g5⟩ := val_get (HR3.out.agree hag) hxv
        rw [HLH.out] at hv
        simp only [Value.slice.injEq] at hv
        obtain ⟨rfl, -, rfl⟩ := hv
        have HD := Lib.hid (fun w1 => dataR_any xv w1 (HV1.out xv (List.mem_of_getElem? hxv)))
        have HTK : Hid (L.take (k + 1) = L.take k ++ [((128 + (k : Int), datV xv, []) : NodeOf (Nd 1))]) := by show L.take (k + 1) = _; rw [List.take_add_one, HLG.out k xv hxv hlt]; rfl
        have hdl := datV_len xv (HV1.out xv (List.mem_of_getElem? hxv))
        have hlk : (L.take k).length = k := by rw [List.length_take, HLL.out]; omega
        obtain ⟨flat, hown, hgrow⟩ := hbt.grow
        rw [hlk] at hown hgrow
        have HWL := Lib.hid (With.lt (V := Old w3) (fun k hk => Nat.lt_of_lt_of_le hk HSZ.out) hown)
        have HGR := Lib.hid hgrow
        have HOW := Lib.hid hown
        have HBX := Lib.hid hbx
        generalize tagV xv = tg at *
        generalize datV xv = D at *
        clear hbt hown hgrow hlk hag hx hxv
        obtain ⟨vk, vn, vs', va, vb, vc⟩ := xv
        simp only at *
        go_wp2_with fail
        refine (HD.out _).mono ?_
        rintro e w4 ⟨a4, c4, he4, x4, r4⟩
        generalize hDl : D.length = dl at *
        have HDl := Lib.hid hDl
        subst he4
        have R4 := Lib.hid (r4 _ HWL.out)
        have B4 := HBX.out.ext x4
        have q4 : ∀ j, w4.cell? ⟨X, j, none⟩ = (#[.int .i64 97, .slice none 0 0, ov] : Array Value)[j]? := B4.cell
        have HB4 := Lib.hid B4
        have HOWG : Hid (∀ g, ov.ownBlock = some g → w3.heap.size ≤ g) := fun g hg => (HOW.out.lt g hg).1
        clear g0 g1 g2 g3 g4 g5 r4 hDl hbx B4
        go_wp2_with (at_builtin; refine wpList_append_src _ rfl (.tmp 35) (.tmp 40) _ rfl w3.heap.size 98 i0 _ 3 56 Try.underlying35 hi0 hz0 hz1 hz2 rfl (by omega) ov k flat rfl ((own_ext HOW.out x4).alloc _) _ 1 1 [.int .i64 (128 + (k : Int)), .slice a4 dl c4, .slice none 0 0] rfl (Src.litB _ #[.int .i64 (128 + (k : Int)), .slice a4 dl c4, .slice none 0 0] _ 3 _ (by simp) rfl (by simp [Value.oneCell'])) (by unfold maxLen; omega) (by omega) (by simp; exact Nat.le_succ_of_le (Nat.le_trans HSZ.out x4.size)) ?_; intro A6 c6 w6 hown6 hg6 hat6; have B6 : Bk w6 X 98 #[.int .i64 97, .slice none 0 0, ov] := (HB4.out.alloc _).agree (V := fun k => ov.ownBlock = some k) (Agree.of_grown hg6 (fun k hk => hk)) (fun h => by have := HOWG.out _ h; omega); have q6 : ∀ j, w6.cell? ⟨X, j, none⟩ = (#[.int .i64 97, .slice none 0 0, ov] : Array Value)[j]? := B6.cell; have f6 := B6.frozen)
        have HBT6 := Lib.hid (HGR.out ((128 + (k : Int), D, []) : NodeOf (Nd 1)) [.int .i64 (128 + (k : Int)), .slice a4 dl c4, .slice none 0 0] _ w6 _ (x4.alloc _) rfl ⟨_, _, rfl, R4.out.ext ((Ext.refl _).alloc _), rk_nil 1 _ _⟩ hown6 hg6 hat6)
        have X6 : Ext w w6 := ((HX.out.trans x4).alloc _).grown hg6 (fun g hg => by have := HOWG.out g hg; have := X3.out.size; omega)
        have HA6 : Hid (Agree (fun k => k = X) w3 w6) := ⟨Nat.le_trans hgb.out.size (Nat.le_trans (x4.alloc _).size hg6.size), fun i hi hn => by
          rw [hg6.block i (Nat.lt_of_lt_of_le hi (Nat.le_trans hgb.out.size (x4.alloc _).size)) (fun e => by have := HOWG.out i e.symm; omega)]
          exact (((x4.alloc _).agree (fun k => k = X)).block i (Nat.lt_of_lt_of_le hi hgb.out.size) hn).trans (hgb.out.block i hi hn)⟩
        have HB6 := Lib.hid B6
        clear hown6 hg6 hat6 q4 B6
        go_wp2_with fail
        go_roundw
        case rel =>
          refine ⟨k + 1, _, by omega, by go_num, HB6.out.setCell 2 _, ?_, HA6.out.trans (agree_setCell (V := fun k => k = X) (p := ⟨X, 2, none⟩) rfl _), X6.setCell hwX _⟩
          rw [HTK.out]
          exact HBT6.out.other hlX hlX 2 _
        case measure => simp [intOf]; omega
      · have hki : ¬ (k : Int) < 7 := by omega
        obtain rfl : k = 7 := by omega
        have hl7 : L.take 7 = L := take_all L 7 (by rw [HLL.out]; omega)
        rw [hl7] at hbt
        have B5 := B3.out.agree hag (by omega)
        have q5 : ∀ j, wr.cell? ⟨w.heap.size, j, none⟩ = (#[.int .i64 m1, .int .i64 m2, .int .i64 m3, .int .i64 m4, .int .i64 m5, .int .i64 m6, .int .i64 m7, .bool m8, .int .i64 m9, .slice a n c] : Array Value)[j]? := B5.cell
        have HCV := Lib.hid (HN2.out wr hx)
        obtain ⟨flat, hown, hgrow⟩ := hbt.grow
        rw [HLL.out] at hown hgrow
        have HWL := Lib.hid (With.lt (V := Old w3) (fun k hk => Nat.lt_of_lt_of_le hk HSZ.out) hown)
        have HGR := Lib.hid hgrow
        have HOW := Lib.hid hown
        have HBX := Lib.hid hbx
        have HOWG : Hid (∀ g, ov.ownBlock = some g → w3.heap.size ≤ g) := fun g hg => (HOW.out.lt g hg).1
        clear hbt hown hgrow hag hx hbx B5
        go_wp2_with fail
        refine HCV.out.mono ?_
        rintro e w8 (⟨h0, _⟩ | ⟨_, a8, c8, he8, x8, r8⟩)
        · exact absurd HV2.out h0
        rw [HNN.out] at he8 r8
        subst he8
        have B8 := HBX.out.ext x8
        have q8 : ∀ j, w8.cell? ⟨X, j, none⟩ = (#[.int .i64 97, .slice none 0 0, ov] : Array Value)[j]? := B8.cell
        have HB8 := Lib.hid B8
        have HR8 := Lib.hid r8
        clear q5 B8 r8
        go_upto_region 13 with (at_builtin; refine wpList_append_src _ rfl (.tmp 50) (.tmp 53) _ rfl w3.heap.size 98 i0 _ 3 56 Try.underlying35 hi0 hz0 hz1 hz2 rfl (by omega) ov 7 flat rfl ((own_ext HOW.out x8).alloc _) _ 1 1 [.int .i64 167, .slice none 0 0, .slice a8 n c8] rfl (Src.litB _ #[.int .i64 167, .slice none 0 0, .slice a8 n c8] _ 3 _ (by simp) rfl (by simp [Value.oneCell'])) (by unfold maxLen; omega) (by omega) (by simp; exact Nat.le_succ_of_le (Nat.le_trans HSZ.out x8.size)) ?_; intro A9 c9 w9 hown9 hg9 hat9; have B9 : Bk w9 X 98 #[.int .i64 97, .slice none 0 0, ov] := (HB8.out.alloc _).agree (V := fun k => ov.ownBlock = some k) (Agree.of_grown hg9 (fun k hk => hk)) (fun h => by have := HOWG.out _ h; omega); have q9 : ∀ j, w9.cell? ⟨X, j, none⟩ = (#[.int .i64 97, .slice none 0 0, ov] : Array Value)[j]? := B9.cell; have f9 := B9.frozen)
        have HBT9 := Lib.hid ((HGR.out ((167, [], vs.map (nodeV 0)) : NodeOf (Nd 1)) [.int .i64 167, .slice none 0 0, .slice a8 n c8] _ w9 _ (x8.alloc _) rfl ⟨_, _, rfl, RB.nil _ _, (RkN 1).weak ((RkN 1).ext HR8.out ((Ext.refl _).alloc _)) (fun k _ hk => HWL.out k hk)⟩ hown9 hg9 hat9).other hlX hlX 2 (.slice A9 8 c9))
        rw [← HK.out] at HBT9
        have X9 : Ext w (w9.setCell ⟨X, 2, none⟩ (.slice A9 8 c9)) := (((HX.out.trans x8).alloc _).grown hg9 (fun g hg => by have := HOWG.out g hg; have := X3.out.size; omega)).setCell hwX _
        have B10 := B9.setCell 2 (.slice A9 8 c9)
        generalize w9.setCell ⟨X, 2, none⟩ (.slice A9 8 c9) = w10 at *
        have q10 : ∀ j, w10.cell? ⟨X, j, none⟩ = (#[.int .i64 97, .slice none 0 0, .slice A9 8 c9] : Array Value)[j]? := B10.cell
        have HM : Hid (∀ B, w10.heap.size = B → (RkN 3).rk Any (w10.alloc (.cells #[.int .i64 97, .slice none 0 0, .slice A9 8 c9] 98)) (.slice (some ⟨B, 0, none⟩) 1 1) [nm]) := fun B hB => by
          rw [HNM.out]
          refine RS.one _ _ _ _ hB _ rfl ⟨_, _, rfl, RB.nil _ _, ?_⟩ (fun h => h)
          exact (RkN 2).ext ((RkN 2).weak (HBT9.out.done (fun k hk => hk)) (fun k _ hk => hk.elim)) ((Ext.refl _).alloc _)
        have HE7 := Lib.hid (HE.out _ _ (HM.out _ rfl))
        clear hown9 hg9 hat9 q8 q9 f9 B9 B10
        go_wp2_with fail
        refine HE7.out.mono ?_
        rintro e w11 ⟨a11, c11, rfl, x11, r11⟩
        have XX := (X9.alloc _).trans x11
        go_wp2_with fail
        go_ret2
        exact ⟨a11, c11, rfl, XX, fun V hV => r11 V (fun k hk => by have := X9.lt (hV k hk); simp; omega)⟩
  · have hEB : encMB m = [] := by unfold encMB; rw [if_neg hc]
    have hEE : encME m = chkM m := by unfold encME; rw [if_neg hc]
    rw [hEB, hEE]
    have hcb : (chkM m != 0) = true := by simpa using hc
    generalize chkM m = ce at *
    obtain ⟨a, c, rfl, hc1, hc2⟩ := hv.form
    clear hv hEB hEE hc hc1 hc2
    obtain ⟨m1, m2, m3, m4, m5, m6, m7, m8, m9, vs⟩ := m
    simp only at *
    generalize vs.length = n at *
    go_enter Try.func38, Try.ntmps38
    go_wp2_with fail
    refine (HC.out _ ((Ext.refl w).alloc _)).mono ?_
    rintro e w1 ⟨rfl, x1⟩
    go_wp2_with fail
    go_ret2
    exact RetBE.nil _ (((Ext.refl w).alloc _).trans x1)

end Go.Proofs.Ytjaofbfppnmdjaa
