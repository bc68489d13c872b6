/- The walk of the statement LateNetwork. -/
import Derived.Test.YtimnepfdpehdmaaLatM
import Derived.Test.YtimnepfdpehdmaaTS
import Derived.RegionTactic
import Derived.BigRegion
import Derived.Deep.DeepCutAuto
import Derived.Deep.RegionHeld3
import Derived.LoopN
import Derived.Deep.CutBlock
namespace Go.Proofs.Ytimnepfdpehdmaa
open Go.RowKit
attribute [local go_sem ↓] Go.wp_at_zero Go.wp_at_succ

theorem boolL_get {V : Nat → Prop} {w : World} {v : Value} {l : List Bool} (h : RF V 1 boolE w v l) {i : Nat} {x : Bool} (hx : l[i]? = some x) : ∃ b off c, v = .slice (some ⟨b, off, none⟩) l.length c ∧ w.cell? ⟨b, off + i, none⟩ = some (.bool x) := by
  obtain ⟨b, off, c, hv, _, _, hc⟩ := h.get hx
  have := hc 0 _ rfl
  rw [Nat.mul_one, Nat.add_zero] at this
  exact ⟨b, off, c, hv, this⟩
theorem info_bytesL : (Try.prog.info? 51).map (fun i => (i.zero, i.size, i.bytes)) = some (some (.slice none 0 0), 1, 24) := by kernel_rfl
theorem info_intL : (Try.prog.info? 3).map (fun i => (i.zero, i.size, i.bytes)) = some (some (.int .i64 0), 1, 8) := by kernel_rfl
theorem nh_max {n : Nat} (h : n ≤ 90) : n + 1 ≤ maxLen := by unfold maxLen; omega
theorem nh_max24 {n : Nat} (h : n ≤ 90) : (n + 1) * 24 ≤ 140737488355328 := by omega
theorem nh_max8 {n : Nat} (h : n ≤ 90) : (n + 1) * 8 ≤ 140737488355328 := by omega
theorem kd_in {k n : Nat} (h : k < n + 30 ∧ n ≤ 50) {d : Int} (h1 : 0 ≤ d) (h2 : d ≤ 5) : IntKind.i64.wrap ((k : Int) + d) = k + d := IntWalk.i64_in _ (by omega)
theorem kd_w64 {k n : Nat} (h : k < n + 30 ∧ n ≤ 50) {d : Int} (h1 : 0 ≤ d) (h2 : d ≤ 5) : wrap64 ((k : Int) + d) = k + d := by unfold wrap64; omega
theorem max_ways {D lt : Int} (h : D = max lt 1) : (lt < 1 ∧ D = 1) ∨ (¬ lt < 1 ∧ D = lt) := by omega
theorem Mrel.more0 {n : Nat} {D : Int} {k nh : Nat} {p p' : PSt} {x x1 : St} {H : List Snt} {g g1 : Nat → Bool} {last last' : Int} {u0 : SSt} {m : Msg} (mr : Mrel D k nh (H ++ [⟨m, k⟩]) g u0 x1 g1) (h : Lrel n D k p x H g last) (hp : Pinv (k : Int) p' (H ++ [⟨m, k⟩])) (hv : m.vals = valsI last') (hl : k < n ∨ last' = last) (hD : 1 ≤ D) (hn : H.length = nh) : Lrel n D (k + 1) p' x1 (H ++ [⟨m, k⟩]) g1 last' := by
  subst hn; exact Mrel.more h hp hv hl hD mr
theorem enc_at {m : Msg} (hfi : Fine m) {v : Value} {w1 : World} (h : RF Any 6 valE w1 v m.vals) : Calls Try.prog 12 #[msgA m v] w1 (fun e w' => ∃ a c, e = .returned (.tuple #[.slice a (encMB m).length c, .int .i64 0]) ∧ Ext w1 w' ∧ RB Any w' (.slice a (encMB m).length c) (encMB m)) :=
  (encMP_any m v w1 h).mono fun e w' ⟨a, c, he, hx, hr⟩ => ⟨a, c, by rw [he, hfi.enc], hx, hr Any (fun _ h => h.elim)⟩
theorem send_at {m : Msg} (hfi : Fine m) {nh : Nat} (hn : nh ≤ 90) {v : Value} {w1 : World} (h : RB Any w1 v (encMB m)) : Calls Try.prog 13 #[v, .int .i64 1, .int .i64 (nh : Int)] w1 (fun e w' => ∃ a0 c0 a1 c1, e = .returned (.tuple #[.agg #[.slice a0 ((encMB m).length + 8) c0, .slice a1 ((encMB m).length + 8) c1], .int .i64 ((nh + 1 : Nat) : Int), .int .i64 0]) ∧ Ext w1 w' ∧ RB (Old w1) w' (.slice a0 ((encMB m).length + 8) c0) (frame (encMB m) 1 nh 0) ∧ RB (Old w1) w' (.slice a1 ((encMB m).length + 8) c1) (frame (encMB m) 1 nh 1)) := by
  refine (sendP_any (encMB m) v 1 nh w1 h).mono fun e w' hh => ?_
  have hl := encMB_len hfi.chk hfi.enc
  have hw : (word 1 && word (nh : Int)) = true := by
    unfold word
    rw [decide_eq_true (by omega), decide_eq_true (by omega), decide_eq_true (by omega), decide_eq_true (by omega)]
    rfl
  unfold sendT at hh
  rw [if_neg (by rw [hw]; simp), if_neg (by omega)] at hh
  obtain ⟨a0, c0, a1, c1, he, hx, r0, r1⟩ := hh
  simp only [frame_len] at he r0 r1
  refine ⟨a0, c0, a1, c1, ?_, hx, r0, r1⟩
  rw [he, show ((nh : Int) + 1) % 65536 = ((nh + 1 : Nat) : Int) by omega]
theorem kdx_up {k n : Nat} (h : k < n + 30 ∧ n ≤ 50) : Value.int .i64 (wrap64 ((k : Int) + 1)) = .int .i64 ((k + 1 : Nat) : Int) := by
  rw [show wrap64 ((k : Int) + 1) = k + 1 by unfold wrap64; omega]; rfl
theorem kes_up {k n : Nat} (h : k < n + 30 ∧ n ≤ 50) : n + 31 - (intOf (Value.int .i64 (wrap64 ((k : Int) + 1)))).toNat < n + 31 - (intOf (Value.int .i64 (k : Int))).toNat := by
  rw [show wrap64 ((k : Int) + 1) = k + 1 by unfold wrap64; omega]
  simp only [intOf]
  omega
theorem Mrel.done0 {n : Nat} {D : Int} {k nh : Nat} {p p' : PSt} {x x1 : St} {H : List Snt} {g g1 : Nat → Bool} {last last' : Int} {u0 : SSt} (m : Mrel D k nh H g u0 x1 g1) (h : Lrel n D k p x H g last) (hp : Pinv (k : Int) p' H) (hl : k < n ∨ last' = last) (hn : H.length = nh) : Lrel n D (k + 1) p' x1 H g1 last' := by
  subst hn; exact Mrel.done h hp hl m
theorem w64_up {i n : Nat} (h : i < n) (hn : n ≤ 90) : wrap64 ((i : Int) + 1) = i + 1 := by unfold wrap64; omega
theorem idx_up {i n : Nat} (h : i < n) (hn : n ≤ 90) : Value.int .i64 (wrap64 ((i : Int) + 1)) = .int .i64 ((i + 1 : Nat) : Int) := by rw [w64_up h hn]; rfl
theorem mes_up {i n : Nat} (h : i < n) (hn : n ≤ 90) : n - (intOf (Value.int .i64 (wrap64 ((i : Int) + 1)))).toNat < n - (intOf (Value.int .i64 (i : Int))).toNat := by
  rw [w64_up h hn]
  simp only [intOf]
  omega
set_option maxRecDepth 100000 in
set_option maxHeartbeats 32000000 in
theorem late_walk (late : Int) (l : List (Int × Int)) (lb : List Bool) (v vb : Value) (w : World) (hl : RF Any 2 inpE w v l) (hlb : RF Any 1 boolE w vb lb) : Calls Try.prog 3 #[.int .i64 late, v, vb] w fun e w' => e = .returned (.bool true) ∧ Ext w w' := by
  have HW := Lib.hid (fun w1 => within17_any late 6 w1 (by omega) (by omega))
  have hd0 : 0 ≤ late % 6 ∧ late % 6 ≤ 5 := by omega
  generalize late % 6 = lt at *
  have HNP := Lib.hid (fun w1 => new_any 5 2 9 77 w1 (by omega) (by omega) (by omega) (by omega) (by omega) (by omega) (by omega) (by omega))
  have HNS := Lib.hid (fun w1 => newSub_any 5 77 w1)
  simp only [newS, newSub] at HNP HNS
  have HIN := Lib.hid (fun w1 (he : Ext w w1) => hl.ext he)
  have HIB := Lib.hid (fun w1 (he : Ext w w1) => hlb.ext he)
  obtain ⟨ia, ic, rfl, hi1, hi2⟩ := hl.form
  obtain ⟨ja, jc, rfl, hj1, hj2⟩ := hlb.form
  unfold maxLen at hi2 hj2
  clear hl hlb
  generalize hln : l.length = ln at *
  have HLN := Lib.hid hln
  generalize hlm : lb.length = lm at *
  have HLM := Lib.hid hlm
  clear hln hlm
  obtain ⟨n, hn⟩ : ∃ n : Nat, n = min ln 50 := ⟨_, rfl⟩
  have hmin : (if (50 : Int) < (ln : Int) then (50 : Int) else (ln : Int)) = (n : Int) := by split <;> omega
  have hmin2 : (if (ln : Int) ≤ 50 then (ln : Int) else 50) = (n : Int) := by split <;> omega
  have HNL := Lib.hid (show n ≤ ln ∧ n ≤ 50 by omega)
  have HD0 := Lib.hid hd0
  have HMIN := Lib.hid (And.intro hmin hmin2)
  clear hn hd0 hmin hmin2
  go_enter Try.func3, Try.ntmps3
  go_wp2_with fail
  refine (HW.out _).mono ?_
  rintro e w1 ⟨rfl, hw1⟩
  subst hw1
  go_wp2_with fail
  refine (HNP.out _).mono ?_
  rintro e w1 ⟨rfl, x1⟩
  go_wp2_with fail
  refine (HNS.out _).mono ?_
  rintro e w2 ⟨rfl, x2⟩
  go_upto_region 7 with fail
  have BP0 := Lib.hid (((Bk.new w1 #[.int .i64 5, .int .i64 2, .int .i64 9, .int .i64 77, .bool false, .int .i64 0, .int .i64 0, .int .i64 0, .int .i64 0, .int .i64 0, .int .i64 0, .int .i64 0, .slice none 0 0] 29 w1.heap.size rfl).ext x2).alloc (.cells #[.slice none 0 0, .int .i64 5, .int .i64 77, .bool false, .int .i64 0, .int .i64 0, .int .i64 0, .int .i64 0, .bool false, .slice none 0 0] 40))
  have BX0 := Lib.hid (Bk.new w2 #[.slice none 0 0, .int .i64 5, .int .i64 77, .bool false, .int .i64 0, .int .i64 0, .int .i64 0, .int .i64 0, .bool false, .slice none 0 0] 40 w2.heap.size rfl)
  have E0 := Lib.hid (((x1.alloc (.cells #[.int .i64 5, .int .i64 2, .int .i64 9, .int .i64 77, .bool false, .int .i64 0, .int .i64 0, .int .i64 0, .int .i64 0, .int .i64 0, .int .i64 0, .int .i64 0, .slice none 0 0] 29)).trans x2).alloc (.cells #[.slice none 0 0, .int .i64 5, .int .i64 77, .bool false, .int .i64 0, .int .i64 0, .int .i64 0, .int .i64 0, .bool false, .slice none 0 0] 40))
  have hs0 : w.heap.size ≤ w1.heap.size ∧ w1.heap.size < w2.heap.size ∧ (w2.alloc (.cells #[.slice none 0 0, .int .i64 5, .int .i64 77, .bool false, .int .i64 0, .int .i64 0, .int .i64 0, .int .i64 0, .bool false, .slice none 0 0] 40)).heap.size = w2.heap.size + 1 := ⟨x1.size, by have := x2.size; simp at this; omega, by simp⟩
  have HS0 := Lib.hid hs0
  clear hs0 x1 x2 HW HNP HNS
  generalize w2.alloc (.cells #[.slice none 0 0, .int .i64 5, .int .i64 77, .bool false, .int .i64 0, .int .i64 0, .int .i64 0, .int .i64 0, .bool false, .slice none 0 0] 40) = W at *
  generalize w1.heap.size = BP at *
  generalize w2.heap.size = BX at *
  obtain ⟨base, hbase⟩ : ∃ base, W.heap.size = base := ⟨_, rfl⟩
  obtain ⟨D, hD⟩ : ∃ D : Int, D = max lt 1 := ⟨_, rfl⟩
  have hDb : 1 ≤ D ∧ D ≤ 5 := by have := HD0.out; omega
  have M0 := Lib.hid (show Mem w W BP BX base D (.slice none 0 0) (.slice none 0 0) (newS 5 2 9 77) ⟨[], newSub 5 77⟩ [] (.slice none 0 0) (.slice none 0 0) (.slice none 0 0) from by
    obtain ⟨h1, h2, h3⟩ := HS0.out
    exact ⟨E0.out, ⟨h1, by omega, by omega, by omega, by omega⟩, by omega, BP0.out, BX0.out, RF.nil _ _ _ _, RF.nil _ _ _ _, RF.nil _ _ _ _, ⟨[], World.ownsRow_nil _ _ _ _, fun i u h => (by simp at h)⟩, World.ownsRow_nil _ _ _ _, fun g h => (by cases h)⟩)
  have HDD := Lib.hid (And.intro hD hDb)
  clear hD hDb hbase HS0 BP0 BX0 E0
  go_upto_region 7 with fail
  go_cut [13] (fun s wx => s = .int .i64 n ∧ wx = W)
  case first =>
    go_wp2_with fail
    all_goals
      go_meet
      exact ⟨by have := HMIN.out; simp_all, rfl⟩
  case rest =>
    obtain ⟨rfl, rfl⟩ := hcut
    obtain ⟨W, hW⟩ : ∃ W, W = wc := ⟨_, rfl⟩
    subst hW
    go_wp2_with fail
    go_loopw [10, 11, 12, 14, 15] (fun sw sd sq sl sk wr => ∃ (k : Nat) (p : PSt) (x : St) (H : List Snt) (g : Nat → Bool) (last : Int) (zp zb zu : Value), k ≤ n + 30 ∧ sk = .int .i64 k ∧ sl = .int .i64 last ∧ sq = .int .i64 (H.length : Nat) ∧ Lrel n D k p x H g last ∧ Mem w wr BP BX base D sw sd p x H zp zb zu) (fun _ _ _ _ i _ => n + 31 - (intOf i).toNat)
    case atStart => exact ⟨0, _, _, [], _, 0, _, _, _, by omega, rfl, rfl, rfl, Lrel.new n D, M0.out⟩
    case round =>
      obtain ⟨k, p, x, H, g, last, zp, zb, zu, hk, rfl, rfl, rfl, hL, hM⟩ := hrel
      clear M0
      have HL := Lib.hid hL
      have HM := Lib.hid hM
      clear hL hM
      obtain ⟨sw, hsw⟩ : ∃ sw, sw = u10 := ⟨_, rfl⟩
      subst hsw
      obtain ⟨sd, hsd⟩ : ∃ sd, sd = u11 := ⟨_, rfl⟩
      subst hsd
      by_cases hlt1 : k < n + 30
      · have hki : (k : Int) < n + 30 := by omega
        have hnw : IntKind.i64.wrap ((n : Int) + 30) = n + 30 := IntWalk.i64_in _ (by have := HNL.out; omega)
        have HKI := Lib.hid hki
        go_upto_if 45 with fail
        go_cut [14] (fun s wx => ∃ last' : Int, s = .int .i64 last' ∧ wx = wr ∧ (k < n ∨ last' = last))
        case first =>
          by_cases hkn : k < n
          · obtain ⟨xk, hxk⟩ : ∃ x, l[k]? = some x := ⟨_, List.getElem?_eq_getElem (by rw [HLN.out]; have := HNL.out; omega)⟩
            obtain ⟨ib, io, ic', hv1, i0, i1⟩ := inp_get (HIN.out wr HM.out.ext) hxk
            rw [HLN.out] at hv1
            simp only [Value.slice.injEq] at hv1
            obtain ⟨rfl, -, rfl⟩ := hv1
            have hkn' : (k : Int) < n := by omega
            have hkl : (k : Int) < ln := by have := HNL.out; omega
            clear hxk i1
            obtain ⟨xa, xb⟩ := xk
            simp only at i0
            go_wp2_with fail
            go_meet
            exact ⟨_, rfl, rfl, .inl hkn⟩
          · have hkn' : ¬ (k : Int) < n := by omega
            go_wp2_with fail
            go_meet
            exact ⟨last, rfl, rfl, .inr rfl⟩
        case rest =>
          obtain ⟨last', rfl, hwc, hlast⟩ := hcut
          subst hwc
          obtain ⟨wr, hwr⟩ : ∃ wr, wr = wc := ⟨_, rfl⟩
          subst hwr
          have HLA := Lib.hid hlast
          have hG := HL.out.pi.good
          have hmod : Mod p := by
            have hb := hG.bnd
            have h0 : 0 ≤ p.state ∧ p.state ≤ 3000 ∧ 0 ≤ p.seq ∧ p.seq ≤ 3000 := by
              have := HNL.out
              cases hs : p.started
              · have := hG.off hs; omega
              · have := hG.on hs; omega
            exact ⟨by omega, by omega, by omega⟩
          obtain ⟨hd1, hd2, hd3⟩ := dat_vals last'
          have HV := Lib.hid (fun w1 => values_any last' w1)
          have HSt := Lib.hid (fun w1 v u h1 h2 => step_any p (valsI last') 0 0 0 v u w1 h1 h2 (by have := hG.vl; omega) (by omega) hmod)
          have hP := Pinv.step (by have := HNL.out; omega) HL.out.pi last' 0 0 0 rfl
          rw [show (k : Int) - 1 + 1 = k by omega] at hP
          have HUV := Lib.hid (show x.sub.vals.length ≤ 100 ∧ x.sub.left ≤ 1000 from by
            rcases HL.out.si.sub with ⟨_, h2⟩ | ⟨top, s, _, _, h3, h4⟩
            · rw [h2]; simp [newSub]
            · have := (chkM_zeroS ((HL.out.pi.row.fine s (List.mem_of_getElem? h3)).1).chk).2.2.2.2.2.2.2.2
              rw [h4.vals]
              exact ⟨by omega, h4.l1⟩)
          have HPS := Lib.hid hP
          have HLT := Lib.hid (HM.out.lt)
          have lB0 : BP < wr.heap.size := HM.out.bp.lt
          have HRA := Lib.hid (fun w' (he : Ext wr w') => (HM.out.pv.ext he).weak (by omega) (V' := Any) (fun _ _ h => h.elim))
          have hVE : (valsI last').length = (valsI last').length := rfl
          clear hG hmod hd1 hd3 hP hlast hVE
          obtain ⟨pa, pc, hzp, _, _⟩ := HM.out.pv.form
          subst hzp
          generalize hz : stepS p (valsI last') 0 0 0 = z at *
          clear hz
          obtain ⟨p', ms⟩ := z
          generalize hnl2 : (valsI last').length = nl at *
          have HNL2 := Lib.hid hnl2
          clear hnl2 hd2
          have HBP0 : Hid (∀ w', Ext wr w' → Bk w' BP 29 (pubC p (.slice pa p.vals.length pc))) := fun w' he => HM.out.bp.ext he
          obtain ⟨p1, p2, p3, p4, p5, p6, p7, p8, p9, p10, p11, p12, pl⟩ := p
          obtain ⟨y1, y2, y3, y4, y5, y6, y7, y8, y9, y10, y11, y12, yl⟩ := p'
          simp only at *
          generalize hnp : pl.length = np at *
          generalize hnq : yl.length = nq at *
          have HNQ := Lib.hid hnq
          generalize hnms : ms.length = nm at *
          have HNM := Lib.hid hnms
          clear hnp hnq hnms
          have HBP : Hid (∀ w', Ext wr w' → Bk w' BP 29 #[.int .i64 p1, .int .i64 p2, .int .i64 p3, .int .i64 p4, .bool p5, .int .i64 p6, .int .i64 p7, .int .i64 p8, .int .i64 p9, .int .i64 p10, .int .i64 p11, .int .i64 p12, .slice pa np pc]) := HBP0
          clear HBP0
          have HBC := Lib.hid (fun w' (he : Ext wr w') => (HBP.out w' he).cell)
          have q0 : ∀ j, wr.cell? ⟨BP, j, none⟩ = (#[.int .i64 p1, .int .i64 p2, .int .i64 p3, .int .i64 p4, .bool p5, .int .i64 p6, .int .i64 p7, .int .i64 p8, .int .i64 p9, .int .i64 p10, .int .i64 p11, .int .i64 p12, .slice pa np pc] : Array Value)[j]? := HBC.out _ (Ext.refl wr)
          go_upto_region 14 with fail
          go_cut [16, 17] (fun t m wx => ∃ (qb : Nat) (a5 : Option Addr) (c5 : Nat) (a6 : Option Addr) (c6 : Nat), t = .pointer (some ⟨qb, 0, none⟩) ∧ m = .slice a6 ms.length c6 ∧ AftQ (NV BP BX sw sd) wr wx qb ⟨y1, y2, y3, y4, y5, y6, y7, y8, y9, y10, y11, y12, yl⟩ ms a5 c5 a6 c6)
          case first =>
            go_region_held3 (fun w' => ∀ j, w'.cell? ⟨BP, j, none⟩ = (#[.int .i64 p1, .int .i64 p2, .int .i64 p3, .int .i64 p4, .bool p5, .int .i64 p6, .int .i64 p7, .int .i64 p8, .int .i64 p9, .int .i64 p10, .int .i64 p11, .int .i64 p12, .slice pa np pc] : Array Value)[j]?)
              (first | (with_reducible exact q0) | (exact HBC.out _ (by first | (with_reducible exact (Ext.refl wr)) | (with_reducible exact (Ext.refl wr).drew) | (with_reducible exact ((Ext.refl wr).alloc _).drew) | (with_reducible exact (Ext.refl wr).drew.alloc _) | (with_reducible exact E4) | (with_reducible exact E4.alloc _) | (with_reducible exact E5) | (with_reducible exact E5.alloc _))) | (intro j; (repeat rw [World.cell?_setCell_other _ _ _ _ (by first | (simp; done) | (simp; omega))]); with_reducible exact HBC.out _ E5 j) | fail)
              (first
                | (go_at_call 9; (with_reducible refine (HV.out _).mono ?_); rintro e w4 ⟨a4, c4, he, x4, r4⟩; simp only [HNL2.out] at he r4; subst he; have E4 : Ext wr w4 := Ext.trans (by first | (with_reducible exact (Ext.refl wr).drew) | (with_reducible exact ((Ext.refl wr).alloc _).drew) | (with_reducible exact (Ext.refl wr).drew.alloc _)) x4; have lB4 : BP < w4.heap.size := E4.lt lB0; (first | (with_reducible have T4 := Lib.hid ((Bk.new wr #[.int .i64 0, .int .i64 0, .int .i64 0, .int .i64 0, .bool false, .int .i64 0, .int .i64 0, .int .i64 0, .int .i64 0, .int .i64 0, .int .i64 0, .int .i64 0, .slice none 0 0] 29 wr.heap.size rfl).drew.ext x4)) | (with_reducible have T4 := Lib.hid ((Bk.new wr.drew #[.int .i64 0, .int .i64 0, .int .i64 0, .int .i64 0, .bool false, .int .i64 0, .int .i64 0, .int .i64 0, .int .i64 0, .int .i64 0, .int .i64 0, .int .i64 0, .slice none 0 0] 29 wr.heap.size rfl).ext x4)) | (have T4 := Lib.hid True.intro)); have Ha4 := Lib.hid (fun w' (he : Ext w4 w') => (r4.ext he).weak (by omega) (V' := Any) (fun _ _ h => h.elim)); clear r4)
                | (go_at_call 8; (with_reducible refine (HSt.out _ _ _ (HRA.out _ (by first | (with_reducible exact E4) | (with_reducible exact E4.alloc _))) (Ha4.out _ (by first | (with_reducible exact Ext.refl w4) | (with_reducible exact (Ext.refl w4).alloc _)))).mono ?_); rintro e w5 ⟨a5, c5, a6, c6, he, x5, r5, m5⟩; simp only [HNQ.out, HNM.out] at he; subst he; have E5 : Ext wr w5 := Ext.trans (by first | (with_reducible exact E4) | (with_reducible exact E4.alloc _)) x5; (first | (with_reducible have T5 := Lib.hid ((Bk.new w4 #[.int .i64 0, .int .i64 0, .int .i64 0, .int .i64 0, .bool false, .int .i64 0, .int .i64 0, .int .i64 0, .int .i64 0, .int .i64 0, .int .i64 0, .int .i64 0, .slice none 0 0] 29 w4.heap.size rfl).ext x5)) | (with_reducible have T5 := Lib.hid (T4.out.ext x5)) | (have T5 := Lib.hid True.intro)); (try have tt1 := T5.out.cell); (try have tt2 := T5.out.frozen))
                | fail)
            all_goals
              first
                | (with_reducible have hA0 := aftQ_put (V := NV BP BX sw sd) (n := ⟨y1, y2, y3, y4, y5, y6, y7, y8, y9, y10, y11, y12, yl⟩) (E4.alloc (.cells #[.int .i64 0, .int .i64 0, .int .i64 0, .int .i64 0, .bool false, .int .i64 0, .int .i64 0, .int .i64 0, .int .i64 0, .int .i64 0, .int .i64 0, .int .i64 0, .slice none 0 0] 29)) HLT.out x5 (Bk.new w4 #[.int .i64 0, .int .i64 0, .int .i64 0, .int .i64 0, .bool false, .int .i64 0, .int .i64 0, .int .i64 0, .int .i64 0, .int .i64 0, .int .i64 0, .int .i64 0, .slice none 0 0] 29 w4.heap.size rfl) rfl (E4.size) r5 m5
                   have hA : AftQ (NV BP BX sw sd) wr (put w5 w4.heap.size 0 [.int .i64 y1, .int .i64 y2, .int .i64 y3, .int .i64 y4, .bool y5, .int .i64 y6, .int .i64 y7, .int .i64 y8, .int .i64 y9, .int .i64 y10, .int .i64 y11, .int .i64 y12, .slice a5 nq c5]) w4.heap.size ⟨y1, y2, y3, y4, y5, y6, y7, y8, y9, y10, y11, y12, yl⟩ ms a5 c5 a6 c6 := by simpa only [HNQ.out] using hA0
                   clear hA0
                   change Exit.then _ _ _ _ (put w5 w4.heap.size 0 [.int .i64 y1, .int .i64 y2, .int .i64 y3, .int .i64 y4, .bool y5, .int .i64 y6, .int .i64 y7, .int .i64 y8, .int .i64 y9, .int .i64 y10, .int .i64 y11, .int .i64 y12, .slice a5 nq c5])
                   generalize put w5 w4.heap.size 0 [.int .i64 y1, .int .i64 y2, .int .i64 y3, .int .i64 y4, .bool y5, .int .i64 y6, .int .i64 y7, .int .i64 y8, .int .i64 y9, .int .i64 y10, .int .i64 y11, .int .i64 y12, .slice a5 nq c5] = w6 at *
                   have HA := Lib.hid hA
                   clear hA
                   go_wp2_with fail
                   go_meet
                   exact ⟨w4.heap.size, a5, c5, a6, c6, rfl, by rw [HNM.out], HA.out⟩)
                | (with_reducible have hA0 := aftQ_put (V := NV BP BX sw sd) (n := ⟨y1, y2, y3, y4, y5, y6, y7, y8, y9, y10, y11, y12, yl⟩) (E4) HLT.out x5 (show Bk w4 wr.heap.size 29 #[.int .i64 0, .int .i64 0, .int .i64 0, .int .i64 0, .bool false, .int .i64 0, .int .i64 0, .int .i64 0, .int .i64 0, .int .i64 0, .int .i64 0, .int .i64 0, .slice none 0 0] from T4.out) rfl (Nat.le_refl _) r5 m5
                   have hA : AftQ (NV BP BX sw sd) wr (put w5 wr.heap.size 0 [.int .i64 y1, .int .i64 y2, .int .i64 y3, .int .i64 y4, .bool y5, .int .i64 y6, .int .i64 y7, .int .i64 y8, .int .i64 y9, .int .i64 y10, .int .i64 y11, .int .i64 y12, .slice a5 nq c5]) wr.heap.size ⟨y1, y2, y3, y4, y5, y6, y7, y8, y9, y10, y11, y12, yl⟩ ms a5 c5 a6 c6 := by simpa only [HNQ.out] using hA0
                   clear hA0
                   change Exit.then _ _ _ _ (put w5 wr.heap.size 0 [.int .i64 y1, .int .i64 y2, .int .i64 y3, .int .i64 y4, .bool y5, .int .i64 y6, .int .i64 y7, .int .i64 y8, .int .i64 y9, .int .i64 y10, .int .i64 y11, .int .i64 y12, .slice a5 nq c5])
                   generalize put w5 wr.heap.size 0 [.int .i64 y1, .int .i64 y2, .int .i64 y3, .int .i64 y4, .bool y5, .int .i64 y6, .int .i64 y7, .int .i64 y8, .int .i64 y9, .int .i64 y10, .int .i64 y11, .int .i64 y12, .slice a5 nq c5] = w6 at *
                   have HA := Lib.hid hA
                   clear hA
                   go_wp2_with fail
                   go_meet
                   exact ⟨wr.heap.size, a5, c5, a6, c6, rfl, by rw [HNM.out], HA.out⟩)
                | (have hA0 := aftQ_new (V := NV BP BX sw sd) (n := ⟨y1, y2, y3, y4, y5, y6, y7, y8, y9, y10, y11, y12, yl⟩) E4 HLT.out x5 r5 m5
                   have hA : AftQ (NV BP BX sw sd) wr (w5.alloc (.cells #[.int .i64 y1, .int .i64 y2, .int .i64 y3, .int .i64 y4, .bool y5, .int .i64 y6, .int .i64 y7, .int .i64 y8, .int .i64 y9, .int .i64 y10, .int .i64 y11, .int .i64 y12, .slice a5 nq c5] 29)) w5.heap.size ⟨y1, y2, y3, y4, y5, y6, y7, y8, y9, y10, y11, y12, yl⟩ ms a5 c5 a6 c6 := by simpa only [HNQ.out] using hA0
                   clear hA0
                   generalize w5.alloc (.cells #[.int .i64 y1, .int .i64 y2, .int .i64 y3, .int .i64 y4, .bool y5, .int .i64 y6, .int .i64 y7, .int .i64 y8, .int .i64 y9, .int .i64 y10, .int .i64 y11, .int .i64 y12, .slice a5 nq c5] 29) = w6 at *
                   have HA := Lib.hid hA
                   clear hA
                   go_wp2_with fail
                   go_meet
                   exact ⟨w5.heap.size, a5, c5, a6, c6, rfl, by rw [HNM.out], HA.out⟩)
          case rest =>
            obtain ⟨qb, a5, c5, a6, c6, rfl, rfl, hQ, hRQ, hMs, hx5, hqb⟩ := hcut
            simp only [HNQ.out] at hQ hRQ
            obtain ⟨w5, hw5⟩ : ∃ w5, w5 = wc := ⟨_, rfl⟩
            subst hw5
            have HQ := Lib.hid (And.intro hQ (And.intro hRQ (And.intro hMs (And.intro hx5 hqb))))
            have q1 : ∀ j, w5.cell? ⟨qb, j, none⟩ = (#[.int .i64 y1, .int .i64 y2, .int .i64 y3, .int .i64 y4, .bool y5, .int .i64 y6, .int .i64 y7, .int .i64 y8, .int .i64 y9, .int .i64 y10, .int .i64 y11, .int .i64 y12, .slice a5 nq c5] : Array Value)[j]? := hQ.cell
            have BPB := Lib.hid (HBP.out _ hx5)
            clear q0 hQ hRQ hMs hx5 hqb
            have q0 : ∀ j, w5.cell? ⟨BP, j, none⟩ = (#[.int .i64 p1, .int .i64 p2, .int .i64 p3, .int .i64 p4, .bool p5, .int .i64 p6, .int .i64 p7, .int .i64 p8, .int .i64 p9, .int .i64 p10, .int .i64 p11, .int .i64 p12, .slice pa np pc] : Array Value)[j]? := BPB.out.cell
            have f0 := BPB.out.frozen
            go_upto_region 16 with fail
            change Code.wp _ _ _ _ (put w5 BP 0 [.int .i64 y1, .int .i64 y2, .int .i64 y3, .int .i64 y4, .bool y5, .int .i64 y6, .int .i64 y7, .int .i64 y8, .int .i64 y9, .int .i64 y10, .int .i64 y11, .int .i64 y12, .slice a5 nq c5])
            have M6 := Lib.hid (show Mem w (put w5 BP 0 [.int .i64 y1, .int .i64 y2, .int .i64 y3, .int .i64 y4, .bool y5, .int .i64 y6, .int .i64 y7, .int .i64 y8, .int .i64 y9, .int .i64 y10, .int .i64 y11, .int .i64 y12, .slice a5 nq c5]) BP BX base D sw sd ⟨y1, y2, y3, y4, y5, y6, y7, y8, y9, y10, y11, y12, yl⟩ x H (.slice a5 nq c5) zb zu from (HM.out.to HQ.out.2.2.2.1).putP (p' := ⟨y1, y2, y3, y4, y5, y6, y7, y8, y9, y10, y11, y12, yl⟩) (vp' := .slice a5 nq c5) HQ.out.2.1)
            have MS6 := Lib.hid (RS.agree HQ.out.2.2.1 (agree_put (V := NV BP BX sw sd) (B := BP) (.inl rfl) [.int .i64 y1, .int .i64 y2, .int .i64 y3, .int .i64 y4, .bool y5, .int .i64 y6, .int .i64 y7, .int .i64 y8, .int .i64 y9, .int .i64 y10, .int .i64 y11, .int .i64 y12, .slice a5 nq c5] 0 w5) (fun _ _ _ hm => msgRep.agree hm (agree_put (V := NV BP BX sw sd) (B := BP) (.inl rfl) [.int .i64 y1, .int .i64 y2, .int .i64 y3, .int .i64 y4, .bool y5, .int .i64 y6, .int .i64 y7, .int .i64 y8, .int .i64 y9, .int .i64 y10, .int .i64 y11, .int .i64 y12, .slice a5 nq c5] 0 w5)))
            clear q0 q1 f0 HQ BPB HBP HBC HRA HV HSt
            generalize put w5 BP 0 [.int .i64 y1, .int .i64 y2, .int .i64 y3, .int .i64 y4, .bool y5, .int .i64 y6, .int .i64 y7, .int .i64 y8, .int .i64 y9, .int .i64 y10, .int .i64 y11, .int .i64 y12, .slice a5 nq c5] = w6 at *
            obtain ⟨ba, bc, hzb, _, _⟩ := HM.out.xb.form
            obtain ⟨ua, uc, hzu, _, _⟩ := HM.out.xs.form
            subst hzb hzu
            have HT := Lib.hid (fun w1 v (h : RF Any 6 valE w1 v x.sub.vals) => tick_any x.sub v w1 h (by have := HUV.out; omega) (by have := HUV.out; omega))
            have HMR := Lib.hid (Mrel.start HL.out)
            obtain ⟨box, u⟩ := x
            simp only at *
            obtain ⟨t, ht⟩ : ∃ t, tickS u = t := ⟨_, rfl⟩
            rw [ht] at HT HMR
            have HTE := Lib.hid ht
            clear ht
            obtain ⟨s1, s2, s3, s4, s5, s6, s7, s8, sl⟩ := u
            obtain ⟨t1, t2, t3, t4, t5, t6, t7, t8, tl⟩ := t
            simp only at *
            generalize hnb : box.length = nb at *
            generalize hnu : sl.length = nu at *
            generalize hnt : tl.length = nt at *
            have HNN := Lib.hid (And.intro hnb (And.intro hnu hnt))
            clear hnb hnu hnt
            have q0 : ∀ j, w6.cell? ⟨BX, j, none⟩ = (#[.slice ba nb bc, .int .i64 s1, .int .i64 s2, .bool s3, .int .i64 s4, .int .i64 s5, .int .i64 s6, .int .i64 s7, .bool s8, .slice ua nu uc] : Array Value)[j]? := M6.out.bx.cell
            go_wp2_with fail
            refine (HT.out _ _ (M6.out.xs.weak (by omega) (V' := Any) (fun _ _ h => h.elim))).mono ?_
            rintro e w7 ⟨a7, c7, he, x7, r7⟩
            simp only [HNN.out.2.2] at he r7
            subst he
            have M7 := Lib.hid (M6.out.to x7)
            have MS7 := Lib.hid (RS.agree MS6.out (x7.agree _) (fun _ _ _ hm => msgRep.ext hm x7))
            have R7 := Lib.hid (r7.weak (V' := NV BP BX sw sd) (by omega) (fun g _ hg => M6.out.lt g hg))
            clear q0 r7 x7 M6 MS6
            have q0 : ∀ j, w7.cell? ⟨BX, j, none⟩ = (#[.slice ba nb bc, .int .i64 s1, .int .i64 s2, .bool s3, .int .i64 s4, .int .i64 s5, .int .i64 s6, .int .i64 s7, .bool s8, .slice ua nu uc] : Array Value)[j]? := M7.out.bx.cell
            have f0 := M7.out.bx.frozen
            go_upto_region 17 with fail
            change Code.wp _ _ _ _ (put w7 BX 1 [.int .i64 t1, .int .i64 t2, .bool t3, .int .i64 t4, .int .i64 t5, .int .i64 t6, .int .i64 t7, .bool t8, .slice a7 nt c7])
            have M8 := Lib.hid (show Mem w (put w7 BX 1 [.int .i64 t1, .int .i64 t2, .bool t3, .int .i64 t4, .int .i64 t5, .int .i64 t6, .int .i64 t7, .bool t8, .slice a7 nt c7]) BP BX base D sw sd ⟨y1, y2, y3, y4, y5, y6, y7, y8, y9, y10, y11, y12, yl⟩ ⟨box, ⟨t1, t2, t3, t4, t5, t6, t7, t8, tl⟩⟩ H (.slice a5 nq c5) (.slice ba nb bc) (.slice a7 nt c7) from M7.out.putS (u' := ⟨t1, t2, t3, t4, t5, t6, t7, t8, tl⟩) (vu' := .slice a7 nt c7) R7.out)
            have MS8 := Lib.hid (RS.agree MS7.out (agree_put (V := NV BP BX sw sd) (B := BX) (.inr (.inl rfl)) [.int .i64 t1, .int .i64 t2, .bool t3, .int .i64 t4, .int .i64 t5, .int .i64 t6, .int .i64 t7, .bool t8, .slice a7 nt c7] 1 w7) (fun _ _ _ hm => msgRep.agree hm (agree_put (V := NV BP BX sw sd) (B := BX) (.inr (.inl rfl)) [.int .i64 t1, .int .i64 t2, .bool t3, .int .i64 t4, .int .i64 t5, .int .i64 t6, .int .i64 t7, .bool t8, .slice a7 nt c7] 1 w7)))
            clear q0 f0 M7 MS7 R7
            generalize put w7 BX 1 [.int .i64 t1, .int .i64 t2, .bool t3, .int .i64 t4, .int .i64 t5, .int .i64 t6, .int .i64 t7, .bool t8, .slice a7 nt c7] = w8 at *
            have q0 : ∀ j, w8.cell? ⟨BX, j, none⟩ = (#[.slice ba nb bc, .int .i64 t1, .int .i64 t2, .bool t3, .int .i64 t4, .int .i64 t5, .int .i64 t6, .int .i64 t7, .bool t8, .slice a7 nt c7] : Array Value)[j]? := M8.out.bx.cell
            go_upto_region 18 with fail
            have B9 := Lib.hid (Bk.new w8 #[.int .i64 t1, .int .i64 t2, .bool t3, .int .i64 t4, .int .i64 t5, .int .i64 t6, .int .i64 t7, .bool t8, .slice a7 nt c7] 34 w8.heap.size rfl)
            have M9 := Lib.hid (M8.out.to ((Ext.refl w8).alloc (.cells #[.int .i64 t1, .int .i64 t2, .bool t3, .int .i64 t4, .int .i64 t5, .int .i64 t6, .int .i64 t7, .bool t8, .slice a7 nt c7] 34)))
            have MS9 := Lib.hid (RS.agree MS8.out (((Ext.refl w8).alloc (.cells #[.int .i64 t1, .int .i64 t2, .bool t3, .int .i64 t4, .int .i64 t5, .int .i64 t6, .int .i64 t7, .bool t8, .slice a7 nt c7] 34)).agree _) (fun _ _ _ hm => msgRep.ext hm ((Ext.refl w8).alloc (.cells #[.int .i64 t1, .int .i64 t2, .bool t3, .int .i64 t4, .int .i64 t5, .int .i64 t6, .int .i64 t7, .bool t8, .slice a7 nt c7] 34))))
            have HNB := Lib.hid (show ¬ NV BP BX sw sd w8.heap.size from fun h => absurd (M8.out.lt _ h) (by omega))
            clear q0 M8 MS8
            generalize w8.alloc (.cells #[.int .i64 t1, .int .i64 t2, .bool t3, .int .i64 t4, .int .i64 t5, .int .i64 t6, .int .i64 t7, .bool t8, .slice a7 nt c7] 34) = w9 at *
            generalize w8.heap.size = BB at *
            have HPI := Lib.hid (HL.out.pi.row.mono (show (k : Int) - 1 ≤ k by omega))
            have HNE := Lib.hid (show BX ≠ BB from fun e => HNB.out (by rw [← e]; exact .inr (.inl rfl)))
            obtain ⟨us0, hus0, _⟩ := M9.out.wo
            obtain ⟨wa, wcap, hsw⟩ := owns_slice hus0
            obtain ⟨da, dcap, hsd⟩ := owns_slice M9.out.du
            clear hus0
            have HSW := Lib.hid hsw
            have HSD := Lib.hid hsd
            obtain ⟨nh, hnh⟩ : ∃ nh, H.length = nh := ⟨_, rfl⟩
            have HNH := Lib.hid hnh
            have HN8 := Lib.hid (show nh ≤ 90 by have := HL.out.hl; have := HNL.out; omega)
            rw [hnh] at hsw hsd ⊢
            clear hnh
            subst hsw hsd
            go_wp2_with fail
            go_loopw [19] (fun s wr => ∃ (i : Nat) (x1 : St) (g1 : Nat → Bool) (zb zu : Value), i ≤ nh ∧ s = .int .i64 i ∧ Mrel D k i H g ⟨t1, t2, t3, t4, t5, t6, t7, t8, tl⟩ x1 g1 ∧ Mem w wr BP BX base D (.slice wa nh wcap) (.slice da nh dcap) ⟨y1, y2, y3, y4, y5, y6, y7, y8, y9, y10, y11, y12, yl⟩ x1 H (.slice a5 nq c5) zb zu ∧ Bk wr BB 34 #[.int .i64 t1, .int .i64 t2, .bool t3, .int .i64 t4, .int .i64 t5, .int .i64 t6, .int .i64 t7, .bool t8, .slice a7 nt c7] ∧ RS (NV BP BX (.slice wa nh wcap) (.slice da nh dcap)) 10 (msgRep (NV BP BX (.slice wa nh wcap) (.slice da nh dcap))) wr (.slice a6 ms.length c6) ms) (fun s _ => nh - (intOf s).toNat)
            case atStart => exact ⟨0, _, _, _, _, by omega, rfl, HMR.out, M9.out, B9.out, MS9.out⟩
            case round =>
              obtain ⟨i, x1, g1, zb, zu, hi, rfl, hMR, hM, hB, hS⟩ := hrel
              have HMX := Lib.hid hMR
              have hMx := Lib.hid hM
              have hBx := Lib.hid hB
              have hSx := Lib.hid hS
              clear hMR hM hB hS M9 B9 MS9 HMR
              by_cases hlt : i < nh
              · have hli : (i : Int) < nh := by omega
                have hli0 : (0 : Int) ≤ i := by omega
                obtain ⟨s, hs⟩ : ∃ s, H[i]? = some s := ⟨_, List.getElem?_eq_getElem (by rw [HNH.out]; exact hlt)⟩
                obtain ⟨us, hus, husr⟩ := hMx.out.wo
                obtain ⟨u, hu⟩ : ∃ u, us[i]? = some u := ⟨_, List.getElem?_eq_getElem (by have := hus.1; rw [HNH.out] at this; omega)⟩
                obtain ⟨wg, wc', hw1, cw⟩ := own_get hus hu
                obtain ⟨dg, dc', hd1, cd⟩ := own_get hMx.out.du (u := .int .i64 (s.t + D)) (i := i) (by rw [List.getElem?_map, hs]; rfl)
                simp only [Value.slice.injEq] at hw1 hd1
                obtain ⟨hw1, -, hw2⟩ := hw1
                obtain ⟨hd1, -, hd2⟩ := hd1
                subst hw1 hw2 hd1 hd2
                obtain ⟨s', hs', hub⟩ := husr i u hu
                rw [hs] at hs'
                injection hs' with hs'
                subst hs'
                obtain ⟨eu1, ec1, hul, _, _⟩ := hub.form
                generalize (frame (encMB s.m) 1 i 1).length = fl at *
                subst hul
                have HUB := Lib.hid hub.any
                have HS := Lib.hid hs
                clear hus husr hu hub hs
                by_cases hd : s.t + D = k
                · have hdb : (s.t + D == (k : Int)) = true := by simpa using hd
                  have HTD := Lib.hid hd
                  have HTK := Lib.hid (fun w1 (he : Ext wr w1) => take_at hMx.out (HPI.out) HMX.out.si HS.out (by rw [HNH.out]; have := HN8.out; omega) 1 (.inr rfl) he (HUB.out.ext he))
                  have HM2 := Lib.hid (HMX.out.take (HPI.out) i s HS.out (by have := HDD.out.2.2; omega) (by rw [HNH.out]; have := HN8.out; omega))
                  obtain ⟨eb, ecb, hzb, _, _⟩ := hMx.out.xb.form
                  obtain ⟨eu, ecu, hzu, _, _⟩ := hMx.out.xs.form
                  subst hzb hzu
                  generalize hx2 : takeF 1 x1 s.m ((i : Int) % 65536) = x2 at *
                  clear hx2 hd
                  have hBX : Hid (∀ w', Ext wr w' → Bk w' BX 40 (stC (.slice eb x1.box.length ecb) x1.sub (.slice eu x1.sub.vals.length ecu))) := fun w' he => hMx.out.bx.ext he
                  obtain ⟨ex, ⟨e1, e2, e3, e4, e5, e6, e7, e8, el⟩⟩ := x1
                  obtain ⟨rx, ⟨r1, r2, r3, r4, r5, r6, r7, r8, rl⟩⟩ := x2
                  simp only at *
                  generalize hn1 : ex.length = neb at *
                  generalize hn2 : el.length = neu at *
                  generalize hn3 : rx.length = nrb at *
                  generalize hn4 : rl.length = nru at *
                  have HNR := Lib.hid (And.intro hn3 hn4)
                  clear hn1 hn2 hn3 hn4
                  have q0 : ∀ j, wr.cell? ⟨BX, j, none⟩ = (#[.slice eb neb ecb, .int .i64 e1, .int .i64 e2, .bool e3, .int .i64 e4, .int .i64 e5, .int .i64 e6, .int .i64 e7, .bool e8, .slice eu neu ecu] : Array Value)[j]? := (hBX.out _ (Ext.refl wr)).cell
                  go_upto_region 22 with fail
                  refine wp_region_callN 5 (by as_aux_lemma => kernel_rfl) (by as_aux_lemma => kernel_rfl) ?_
                  simp only [List.take_succ_cons, List.take_zero, List.drop_succ_cons, List.drop_zero]
                  repeat still_step
                  refine wpStill_nil ?_
                  go_wp2_with (go_at_call 11; (with_reducible refine (HTK.out _ (Ext.refl wr).drew).mono ?_); rintro e w2 ⟨rb, rcb, ru, rcu, he, xx, rr1, rr2⟩; simp only [HNR.out.1, HNR.out.2] at he rr1 rr2; subst he; have E2 : Ext wr w2 := (Ext.refl wr).drew.trans xx; have RX := Lib.hid (And.intro rr1 rr2); have q2 := (hBX.out _ E2).cell; have f2 := (hBX.out _ E2).frozen; clear rr1 rr2 xx)
                  refine NoPanic.normal ?_
                  clear q0 q2 f2 cw cd
                  replace hMx := Lib.hid (hMx.out.to E2)
                  replace hBx := Lib.hid (hBx.out.ext E2)
                  replace hSx := Lib.hid (RS.agree hSx.out (E2.agree _) (fun _ _ _ hm => msgRep.ext hm E2))
                  obtain ⟨w3, hW9⟩ : ∃ w9, put w2 BX 0 [.slice rb nrb rcb, .int .i64 r1, .int .i64 r2, .bool r3, .int .i64 r4, .int .i64 r5, .int .i64 r6, .int .i64 r7, .bool r8, .slice ru nru rcu] = w9 := ⟨_, rfl⟩
                  have hW8 := hW9
                  simp only [put, Nat.reduceAdd] at hW8
                  rw [hW8]
                  clear hW8
                  have N1' := (show Mem w (put w2 BX 0 [.slice rb nrb rcb, .int .i64 r1, .int .i64 r2, .bool r3, .int .i64 r4, .int .i64 r5, .int .i64 r6, .int .i64 r7, .bool r8, .slice ru nru rcu]) BP BX base D _ _ ⟨y1, y2, y3, y4, y5, y6, y7, y8, y9, y10, y11, y12, yl⟩ ⟨rx, ⟨r1, r2, r3, r4, r5, r6, r7, r8, rl⟩⟩ H (.slice a5 nq c5) (.slice rb nrb rcb) (.slice ru nru rcu) from (hMx.out.putX (x' := ⟨rx, ⟨r1, r2, r3, r4, r5, r6, r7, r8, rl⟩⟩) (vb' := .slice rb nrb rcb) (vu' := .slice ru nru rcu) RX.out.1 RX.out.2))
                  have N2' := put_other (HNE.out) [.slice rb nrb rcb, .int .i64 r1, .int .i64 r2, .bool r3, .int .i64 r4, .int .i64 r5, .int .i64 r6, .int .i64 r7, .bool r8, .slice ru nru rcu] 0 _ hBx.out
                  have N3' := RS.agree hSx.out (agree_put (B := BX) (.inr (.inl rfl)) [.slice rb nrb rcb, .int .i64 r1, .int .i64 r2, .bool r3, .int .i64 r4, .int .i64 r5, .int .i64 r6, .int .i64 r7, .bool r8, .slice ru nru rcu] 0 w2) (fun _ _ _ hm => msgRep.agree hm (agree_put (B := BX) (.inr (.inl rfl)) [.slice rb nrb rcb, .int .i64 r1, .int .i64 r2, .bool r3, .int .i64 r4, .int .i64 r5, .int .i64 r6, .int .i64 r7, .bool r8, .slice ru nru rcu] 0 w2))
                  rw [hW9] at N1' N2' N3'
                  have N1 := Lib.hid N1'
                  have N2 := Lib.hid N2'
                  have N3 := Lib.hid N3'
                  clear hMx hBx hSx hW9 N1' N2' N3'
                  go_wp2_with fail
                  have R1 : i + 1 ≤ nh := hlt
                  have R4 : nh - (intOf (Value.int .i64 (wrap64 ((i : Int) + 1)))).toNat < nh - (intOf (Value.int .i64 (i : Int))).toNat := mes_up hlt HN8.out
                  have R2 : Mrel D k (i + 1) H g ⟨t1, t2, t3, t4, t5, t6, t7, t8, tl⟩ ⟨rx, ⟨r1, r2, r3, r4, r5, r6, r7, r8, rl⟩⟩ (fun j => g1 j || decide (j = i)) := ⟨HM2.out.si, HM2.out.up, fun f s' hf hh he => by
                      by_cases hfi : f = i
                      · subst hfi; simp
                      · exact HM2.out.ar f s' (Nat.lt_of_le_of_ne (Nat.le_of_lt_succ hf) hfi) hh he, HM2.out.mo⟩
                  have R3 : Value.int .i64 (wrap64 ((i : Int) + 1)) = .int .i64 ((i + 1 : Nat) : Int) := idx_up hlt HN8.out
                  go_roundw
                  case rel =>
                    exact ⟨i + 1, ⟨rx, ⟨r1, r2, r3, r4, r5, r6, r7, r8, rl⟩⟩, (fun j => g1 j || decide (j = i)), .slice rb nrb rcb, .slice ru nru rcu, R1, R3, R2, N1.out, N2.out, N3.out⟩
                  case measure =>
                    exact R4
                · have hdb : (s.t + D == (k : Int)) = false := by simpa using hd
                  have HM2 := Lib.hid (HMX.out.skip (fun s' hs' => by rw [HS.out] at hs'; injection hs' with hs'; rw [← hs']; exact hd))
                  go_wp2_with fail
                  have R1 : i + 1 ≤ nh := hlt
                  have R4 : nh - (intOf (Value.int .i64 (wrap64 ((i : Int) + 1)))).toNat < nh - (intOf (Value.int .i64 (i : Int))).toNat := mes_up hlt HN8.out
                  have R3 : Value.int .i64 (wrap64 ((i : Int) + 1)) = .int .i64 ((i + 1 : Nat) : Int) := idx_up hlt HN8.out
                  go_roundw
                  case rel => exact ⟨i + 1, x1, g1, zb, zu, R1, R3, HM2.out, hMx.out, hBx.out, hSx.out⟩
                  case measure => exact R4
              · have hli : ¬ (i : Int) < nh := by omega
                have hin : nh = i := Nat.le_antisymm (Nat.le_of_not_lt hlt) hi
                subst hin
                have KUP := Lib.hid (show k + 1 ≤ n + 30 from hlt1)
                have HKN := Lib.hid (show k < n + 30 ∧ n ≤ 50 from ⟨hlt1, HNL.out.2⟩)
                go_upto_block 4 with fail
                go_cut [10, 11, 12] (fun sw2 sd2 sq2 wx => ∃ (x1 : St) (H2 : List Snt) (g1 : Nat → Bool) (zb zu : Value), sq2 = .int .i64 ((H2.length : Nat) : Int) ∧ Lrel n D (k + 1) ⟨y1, y2, y3, y4, y5, y6, y7, y8, y9, y10, y11, y12, yl⟩ x1 H2 g1 last' ∧ (t3 = true → x1.sub.known = true ∧ t4 ≤ x1.sub.state) ∧ Mem w wx BP BX base D sw2 sd2 ⟨y1, y2, y3, y4, y5, y6, y7, y8, y9, y10, y11, y12, yl⟩ x1 H2 (.slice a5 nq c5) zb zu ∧ Bk wx BB 34 #[.int .i64 t1, .int .i64 t2, .bool t3, .int .i64 t4, .int .i64 t5, .int .i64 t6, .int .i64 t7, .bool t8, .slice a7 nt c7])
                case first =>
                  have hps := HPS.out.2.2
                  rcases hps with ⟨hms, hP⟩ | ⟨m, hms, hmv, hfi, hP⟩
                  · subst hms
                    have SEQ := Lib.hid (show Value.int .i64 ((nh : Nat) : Int) = .int .i64 ((H.length : Nat) : Int) by rw [HNH.out])
                    have HLR := Lib.hid (HMX.out.done0 HL.out hP HLA.out HNH.out)
                    have HMO1 := Lib.hid HMX.out.mo
                    clear HMX hP
                    go_wp2_with fail
                    refine wp_loop_rounds 1 ?_
                    rw [rounds_succ]
                    go_wp2_with fail
                    go_meet
                    exact ⟨x1, H, g1, zb, zu, SEQ.out, HLR.out, HMO1.out, hMx.out, hBx.out⟩
                  · skip
                    subst hms
                    obtain ⟨mb, mo, mc, ma1, mc1, hm1, _, cc0, cc1, cc2, cc3, cc4, cc5, cc6, cc7, cc8, cc9, hmr⟩ := msg_get hSx.out
                    simp only [Value.slice.injEq] at hm1
                    obtain ⟨hm1, -, hm2⟩ := hm1
                    subst hm1 hm2
                    have HFI := Lib.hid hfi
                    have HEN := Lib.hid (fun v w1 h => enc_at hfi (v := v) (w1 := w1) h)
                    have HSN := Lib.hid (fun v w1 h => send_at hfi HN8.out (v := v) (w1 := w1) h)
                    have HMR1 := Lib.hid (hmr.weak (by omega) (V' := Any) (fun _ _ h => h.elim))
                    have HP1 := Lib.hid (And.intro hP hmv)
                    clear hmr hfi hP hmv
                    generalize hpb : (encMB m).length = npb at *
                    have HPB := Lib.hid hpb
                    clear hpb
                    simp only [List.length_singleton]
                    go_wp2_with fail
                    refine wp_loop_rounds 2 ?_
                    rw [rounds_succ]
                    go_wp2_with fail
                    refine (HEN.out _ _ HMR1.out).mono ?_
                    rintro e w2 ⟨a2, c2, rfl, x2, r2⟩
                    have HR2 := Lib.hid r2
                    clear r2 cc0 cc1 cc2 cc3 cc4 cc5 cc6 cc7 cc8 cc9
                    go_wp2_with fail
                    refine (HSN.out _ _ HR2.out).mono ?_
                    rintro e w3 ⟨f0, k0, f1, k1, rfl, x3, r3, r4⟩
                    have HF0 := Lib.hid r3
                    have HF1 := Lib.hid r4
                    clear r3 r4
                    go_upto_region 28 with fail
                    have E3 := Lib.hid ((x2.trans x3).alloc (.cells #[.slice f0 (npb + 8) k0, .slice f1 (npb + 8) k1] 56))
                    have M3 := Lib.hid (hMx.out.to E3.out)
                    have B3 := Lib.hid (hBx.out.ext E3.out)
                    have C3 := Lib.hid (Bk.new w3 #[.slice f0 (npb + 8) k0, .slice f1 (npb + 8) k1] 56 w3.heap.size rfl)
                    have F0 := Lib.hid ((HF0.out.weak (V' := ((NV BP BX (.slice wa nh wcap) (.slice da nh dcap)))) (fun g _ hg => x2.lt (hMx.out.lt g hg))).ext ((Ext.refl w3).alloc (.cells #[.slice f0 (npb + 8) k0, .slice f1 (npb + 8) k1] 56)))
                    have F1 := Lib.hid ((HF1.out.weak (V' := ((NV BP BX (.slice wa nh wcap) (.slice da nh dcap)))) (fun g _ hg => x2.lt (hMx.out.lt g hg))).ext ((Ext.refl w3).alloc (.cells #[.slice f0 (npb + 8) k0, .slice f1 (npb + 8) k1] 56)))
                    have HNC := Lib.hid (show ¬ ((NV BP BX (.slice wa nh wcap) (.slice da nh dcap))) w3.heap.size from fun h => absurd ((x2.trans x3).lt (hMx.out.lt _ h)) (Nat.lt_irrefl _))
                    have HXC := Lib.hid (show BX ≠ w3.heap.size from fun e => HNC.out (by rw [← e]; exact .inr (.inl rfl)))
                    have HMS := Lib.hid (HMX.out.snoc (Nat.le_of_eq HNH.out.symm) ⟨m, k⟩)
                    clear hMx hBx hSx HMX x2 x3 HF0 HF1 E3 HR2
                    generalize w3.alloc (.cells #[.slice f0 (npb + 8) k0, .slice f1 (npb + 8) k1] 56) = W3 at *
                    generalize w3.heap.size = CB at *
                    go_upto_region 31 with fail
                    go_cut [122] (fun s wx => ∃ bb : Bool, s = .bool bb ∧ wx = W3)
                    case first =>
                      by_cases hkl : lm ≤ k
                      · have hkb : (lm : Int) ≤ k := Int.ofNat_le.2 hkl
                        go_wp2_with fail
                        go_meet
                        exact ⟨true, rfl, rfl⟩
                      · obtain ⟨bx, hbx⟩ : ∃ b, lb[k]? = some b := ⟨_, List.getElem?_eq_getElem (by rw [HLM.out]; exact Nat.lt_of_not_le hkl)⟩
                        obtain ⟨jb, jo, jcc, hv2, j0⟩ := boolL_get (HIB.out W3 M3.out.ext) hbx
                        rw [HLM.out] at hv2
                        simp only [Value.slice.injEq] at hv2
                        obtain ⟨hv21, -, hv22⟩ := hv2
                        subst hv21 hv22
                        have hkb : ¬ (lm : Int) ≤ k := fun h => hkl (Int.ofNat_le.1 h)
                        have hkb2 : (k : Int) < lm := Int.not_le.1 hkb
                        have hk0 : (0 : Int) ≤ k := Int.natCast_nonneg k
                        go_wp2_with fail
                        go_meet
                        exact ⟨!bx, rfl, rfl⟩
                    case rest =>
                      obtain ⟨bb, rfl, hwc⟩ := hcut
                      subst hwc
                      obtain ⟨W3, hW3⟩ : ∃ W, W = wc := ⟨_, rfl⟩
                      subst hW3
                      have HR2 := Lib.hid (HP1.out.1.row)
                      have HLS := Lib.hid (show (H ++ [(⟨m, (k : Int)⟩ : Snt)]).length ≤ 200 by have h1 := HNH.out; have h2 := HN8.out; simp only [List.length_append, List.length_singleton]; exact Nat.le_trans (Nat.add_le_add_right (h1 ▸ h2) 1) (by decide))
                      have HGT := Lib.hid (show (H ++ [(⟨m, (k : Int)⟩ : Snt)])[nh]? = some ⟨m, (k : Int)⟩ by rw [← HNH.out]; simp)
                      go_upto_if 122 with fail
                      go_cut [123] (fun _ wx => ∃ (x1 : St) (g1 : Nat → Bool) (zb zu : Value), Mrel D k nh (H ++ [(⟨m, (k : Int)⟩ : Snt)]) g ⟨t1, t2, t3, t4, t5, t6, t7, t8, tl⟩ x1 g1 ∧ Mem w wx BP BX base D (.slice wa nh wcap) (.slice da nh dcap) ⟨y1, y2, y3, y4, y5, y6, y7, y8, y9, y10, y11, y12, yl⟩ x1 H (.slice a5 nq c5) zb zu ∧ Bk wx BB 34 #[.int .i64 t1, .int .i64 t2, .bool t3, .int .i64 t4, .int .i64 t5, .int .i64 t6, .int .i64 t7, .bool t8, .slice a7 nt c7] ∧ Bk wx CB 56 #[.slice f0 (npb + 8) k0, .slice f1 (npb + 8) k1] ∧ RB (NV BP BX (.slice wa nh wcap) (.slice da nh dcap)) wx (.slice f0 (npb + 8) k0) (frame (encMB m) 1 nh 0) ∧ RB (NV BP BX (.slice wa nh wcap) (.slice da nh dcap)) wx (.slice f1 (npb + 8) k1) (frame (encMB m) 1 nh 1))
                      case first =>
                        cases bb
                        · go_wp2_with fail
                          go_meet
                          exact ⟨x1, g1, zb, zu, HMS.out, M3.out, B3.out, C3.out, F0.out, F1.out⟩
                        · have HTK := Lib.hid (fun w1 (he : Ext W3 w1) => take_at M3.out HR2.out HMS.out.si HGT.out HLS.out 0 (.inl rfl) he (F0.out.any.ext he))
                          have HM2 := Lib.hid (HMS.out.take HR2.out nh _ HGT.out (Int.le_add_of_nonneg_right (by decide)) HLS.out)
                          obtain ⟨eb, ecb, hzb, _, _⟩ := M3.out.xb.form
                          obtain ⟨eu, ecu, hzu, _, _⟩ := M3.out.xs.form
                          subst hzb hzu
                          generalize hx2 : takeF 1 x1 (Snt.mk m (k : Int)).m ((nh : Int) % 65536) = x2 at *
                          clear hx2
                          have hBX : Hid (∀ w', Ext W3 w' → Bk w' BX 40 (stC (.slice eb x1.box.length ecb) x1.sub (.slice eu x1.sub.vals.length ecu))) := fun w' he => M3.out.bx.ext he
                          obtain ⟨ex, ⟨e1, e2, e3, e4, e5, e6, e7, e8, el⟩⟩ := x1
                          obtain ⟨rx, ⟨r1, r2, r3, r4, r5, r6, r7, r8, rl⟩⟩ := x2
                          simp only at *
                          generalize hn1 : ex.length = neb at *
                          generalize hn2 : el.length = neu at *
                          generalize hn3 : rx.length = nrb at *
                          generalize hn4 : rl.length = nru at *
                          have HNR := Lib.hid (And.intro hn3 hn4)
                          clear hn1 hn2 hn3 hn4
                          have q0 : ∀ j, W3.cell? ⟨BX, j, none⟩ = (#[.slice eb neb ecb, .int .i64 e1, .int .i64 e2, .bool e3, .int .i64 e4, .int .i64 e5, .int .i64 e6, .int .i64 e7, .bool e8, .slice eu neu ecu] : Array Value)[j]? := (hBX.out _ (Ext.refl W3)).cell
                          have q1 : ∀ j, W3.cell? ⟨CB, j, none⟩ = (#[.slice f0 (npb + 8) k0, .slice f1 (npb + 8) k1] : Array Value)[j]? := C3.out.cell
                          go_wp2_with fail
                          refine (HTK.out _ (Ext.refl W3)).mono ?_
                          rintro e w4 ⟨rb, rcb, ru, rcu, he, xx, rr1, rr2⟩
                          simp only [HNR.out.1, HNR.out.2] at he rr1 rr2
                          subst he
                          have RX := Lib.hid (And.intro rr1 rr2)
                          have hMx := Lib.hid (M3.out.to xx)
                          have hBx := Lib.hid (B3.out.ext xx)
                          have C4 := Lib.hid (C3.out.ext xx)
                          have G0 := Lib.hid (F0.out.ext xx)
                          have G1 := Lib.hid (F1.out.ext xx)
                          clear q0 q1 rr1 rr2
                          have q2 := (hBX.out _ xx).cell
                          have f2 := (hBX.out _ xx).frozen
                          go_wp2_with fail
                          clear q2 f2
                          obtain ⟨w5, hW9⟩ : ∃ w9, put w4 BX 0 [.slice rb nrb rcb, .int .i64 r1, .int .i64 r2, .bool r3, .int .i64 r4, .int .i64 r5, .int .i64 r6, .int .i64 r7, .bool r8, .slice ru nru rcu] = w9 := ⟨_, rfl⟩
                          have hW8 := hW9
                          simp only [put, Nat.reduceAdd] at hW8
                          rw [hW8]
                          clear hW8
                          have N1' := (show Mem w (put w4 BX 0 [.slice rb nrb rcb, .int .i64 r1, .int .i64 r2, .bool r3, .int .i64 r4, .int .i64 r5, .int .i64 r6, .int .i64 r7, .bool r8, .slice ru nru rcu]) BP BX base D _ _ ⟨y1, y2, y3, y4, y5, y6, y7, y8, y9, y10, y11, y12, yl⟩ ⟨rx, ⟨r1, r2, r3, r4, r5, r6, r7, r8, rl⟩⟩ H (.slice a5 nq c5) (.slice rb nrb rcb) (.slice ru nru rcu) from (hMx.out.putX (x' := ⟨rx, ⟨r1, r2, r3, r4, r5, r6, r7, r8, rl⟩⟩) (vb' := .slice rb nrb rcb) (vu' := .slice ru nru rcu) RX.out.1 RX.out.2))
                          have N2' := put_other (HNE.out) [.slice rb nrb rcb, .int .i64 r1, .int .i64 r2, .bool r3, .int .i64 r4, .int .i64 r5, .int .i64 r6, .int .i64 r7, .bool r8, .slice ru nru rcu] 0 _ hBx.out
                          have N3' := put_other (HXC.out) [.slice rb nrb rcb, .int .i64 r1, .int .i64 r2, .bool r3, .int .i64 r4, .int .i64 r5, .int .i64 r6, .int .i64 r7, .bool r8, .slice ru nru rcu] 0 _ C4.out
                          have N4' := G0.out.agree (agree_put (B := BX) (.inr (.inl rfl)) [.slice rb nrb rcb, .int .i64 r1, .int .i64 r2, .bool r3, .int .i64 r4, .int .i64 r5, .int .i64 r6, .int .i64 r7, .bool r8, .slice ru nru rcu] 0 w4)
                          have N5' := G1.out.agree (agree_put (B := BX) (.inr (.inl rfl)) [.slice rb nrb rcb, .int .i64 r1, .int .i64 r2, .bool r3, .int .i64 r4, .int .i64 r5, .int .i64 r6, .int .i64 r7, .bool r8, .slice ru nru rcu] 0 w4)
                          rw [hW9] at N1' N2' N3' N4' N5'
                          have NN := Lib.hid (And.intro N1' (And.intro N2' (And.intro N3' (And.intro N4' N5'))))
                          clear hMx hBx C4 G0 G1 hW9 N1' N2' N3' N4' N5'
                          go_meet
                          exact ⟨⟨rx, ⟨r1, r2, r3, r4, r5, r6, r7, r8, rl⟩⟩, _, .slice rb nrb rcb, .slice ru nru rcu, HM2.out, NN.out.1, NN.out.2.1, NN.out.2.2.1, NN.out.2.2.2.1, NN.out.2.2.2.2⟩
                      case rest =>
                        obtain ⟨x1, g1, zb, zu, hms, hm3, hb3, hc3, hf0, hf1⟩ := hcut
                        have HMS := Lib.hid hms
                        have M3 := Lib.hid hm3
                        have B3 := Lib.hid hb3
                        have C3 := Lib.hid hc3
                        have F0 := Lib.hid hf0
                        have F1 := Lib.hid hf1
                        clear hms hm3 hb3 hc3 hf0 hf1
                        obtain ⟨W3, hW3⟩ : ∃ W, W = wc := ⟨_, rfl⟩
                        subst hW3
                        go_upto_if 128 with fail
                        go_cut [129] (fun _ wx => ∃ (x1 : St) (g1 : Nat → Bool) (zb zu : Value), Mrel D k nh (H ++ [(⟨m, (k : Int)⟩ : Snt)]) g ⟨t1, t2, t3, t4, t5, t6, t7, t8, tl⟩ x1 g1 ∧ Mem w wx BP BX base D (.slice wa nh wcap) (.slice da nh dcap) ⟨y1, y2, y3, y4, y5, y6, y7, y8, y9, y10, y11, y12, yl⟩ x1 H (.slice a5 nq c5) zb zu ∧ Bk wx BB 34 #[.int .i64 t1, .int .i64 t2, .bool t3, .int .i64 t4, .int .i64 t5, .int .i64 t6, .int .i64 t7, .bool t8, .slice a7 nt c7] ∧ Bk wx CB 56 #[.slice f0 (npb + 8) k0, .slice f1 (npb + 8) k1] ∧ RB (NV BP BX (.slice wa nh wcap) (.slice da nh dcap)) wx (.slice f0 (npb + 8) k0) (frame (encMB m) 1 nh 0) ∧ RB (NV BP BX (.slice wa nh wcap) (.slice da nh dcap)) wx (.slice f1 (npb + 8) k1) (frame (encMB m) 1 nh 1))
                        case first =>
                          by_cases hl0 : lt = 0
                          · have hlb : (lt == 0) = true := by simpa using hl0
                            clear hl0
                            have HTK := Lib.hid (fun w1 (he : Ext W3 w1) => take_at M3.out HR2.out HMS.out.si HGT.out HLS.out 1 (.inr rfl) he (F1.out.any.ext he))
                            have HM2 := Lib.hid (HMS.out.take HR2.out nh _ HGT.out (Int.le_add_of_nonneg_right (by decide)) HLS.out)
                            obtain ⟨eb, ecb, hzb, _, _⟩ := M3.out.xb.form
                            obtain ⟨eu, ecu, hzu, _, _⟩ := M3.out.xs.form
                            subst hzb hzu
                            generalize hx2 : takeF 1 x1 (Snt.mk m (k : Int)).m ((nh : Int) % 65536) = x2 at *
                            clear hx2
                            have hBX : Hid (∀ w', Ext W3 w' → Bk w' BX 40 (stC (.slice eb x1.box.length ecb) x1.sub (.slice eu x1.sub.vals.length ecu))) := fun w' he => M3.out.bx.ext he
                            obtain ⟨ex, ⟨e1, e2, e3, e4, e5, e6, e7, e8, el⟩⟩ := x1
                            obtain ⟨rx, ⟨r1, r2, r3, r4, r5, r6, r7, r8, rl⟩⟩ := x2
                            simp only at *
                            generalize hn1 : ex.length = neb at *
                            generalize hn2 : el.length = neu at *
                            generalize hn3 : rx.length = nrb at *
                            generalize hn4 : rl.length = nru at *
                            have HNR := Lib.hid (And.intro hn3 hn4)
                            clear hn1 hn2 hn3 hn4
                            have q0 : ∀ j, W3.cell? ⟨BX, j, none⟩ = (#[.slice eb neb ecb, .int .i64 e1, .int .i64 e2, .bool e3, .int .i64 e4, .int .i64 e5, .int .i64 e6, .int .i64 e7, .bool e8, .slice eu neu ecu] : Array Value)[j]? := (hBX.out _ (Ext.refl W3)).cell
                            have q1 : ∀ j, W3.cell? ⟨CB, j, none⟩ = (#[.slice f0 (npb + 8) k0, .slice f1 (npb + 8) k1] : Array Value)[j]? := C3.out.cell
                            go_wp2_with fail
                            refine (HTK.out _ (Ext.refl W3)).mono ?_
                            rintro e w4 ⟨rb, rcb, ru, rcu, he, xx, rr1, rr2⟩
                            simp only [HNR.out.1, HNR.out.2] at he rr1 rr2
                            subst he
                            have RX := Lib.hid (And.intro rr1 rr2)
                            have hMx := Lib.hid (M3.out.to xx)
                            have hBx := Lib.hid (B3.out.ext xx)
                            have C4 := Lib.hid (C3.out.ext xx)
                            have G0 := Lib.hid (F0.out.ext xx)
                            have G1 := Lib.hid (F1.out.ext xx)
                            clear q0 q1 rr1 rr2
                            have q2 := (hBX.out _ xx).cell
                            have f2 := (hBX.out _ xx).frozen
                            go_wp2_with fail
                            clear q2 f2
                            obtain ⟨w5, hW9⟩ : ∃ w9, put w4 BX 0 [.slice rb nrb rcb, .int .i64 r1, .int .i64 r2, .bool r3, .int .i64 r4, .int .i64 r5, .int .i64 r6, .int .i64 r7, .bool r8, .slice ru nru rcu] = w9 := ⟨_, rfl⟩
                            have hW8 := hW9
                            simp only [put, Nat.reduceAdd] at hW8
                            rw [hW8]
                            clear hW8
                            have N1' := (show Mem w (put w4 BX 0 [.slice rb nrb rcb, .int .i64 r1, .int .i64 r2, .bool r3, .int .i64 r4, .int .i64 r5, .int .i64 r6, .int .i64 r7, .bool r8, .slice ru nru rcu]) BP BX base D _ _ ⟨y1, y2, y3, y4, y5, y6, y7, y8, y9, y10, y11, y12, yl⟩ ⟨rx, ⟨r1, r2, r3, r4, r5, r6, r7, r8, rl⟩⟩ H (.slice a5 nq c5) (.slice rb nrb rcb) (.slice ru nru rcu) from (hMx.out.putX (x' := ⟨rx, ⟨r1, r2, r3, r4, r5, r6, r7, r8, rl⟩⟩) (vb' := .slice rb nrb rcb) (vu' := .slice ru nru rcu) RX.out.1 RX.out.2))
                            have N2' := put_other (HNE.out) [.slice rb nrb rcb, .int .i64 r1, .int .i64 r2, .bool r3, .int .i64 r4, .int .i64 r5, .int .i64 r6, .int .i64 r7, .bool r8, .slice ru nru rcu] 0 _ hBx.out
                            have N3' := put_other (HXC.out) [.slice rb nrb rcb, .int .i64 r1, .int .i64 r2, .bool r3, .int .i64 r4, .int .i64 r5, .int .i64 r6, .int .i64 r7, .bool r8, .slice ru nru rcu] 0 _ C4.out
                            have N4' := G0.out.agree (agree_put (B := BX) (.inr (.inl rfl)) [.slice rb nrb rcb, .int .i64 r1, .int .i64 r2, .bool r3, .int .i64 r4, .int .i64 r5, .int .i64 r6, .int .i64 r7, .bool r8, .slice ru nru rcu] 0 w4)
                            have N5' := G1.out.agree (agree_put (B := BX) (.inr (.inl rfl)) [.slice rb nrb rcb, .int .i64 r1, .int .i64 r2, .bool r3, .int .i64 r4, .int .i64 r5, .int .i64 r6, .int .i64 r7, .bool r8, .slice ru nru rcu] 0 w4)
                            rw [hW9] at N1' N2' N3' N4' N5'
                            have NN := Lib.hid (And.intro N1' (And.intro N2' (And.intro N3' (And.intro N4' N5'))))
                            clear hMx hBx C4 G0 G1 hW9 N1' N2' N3' N4' N5'
                            go_meet
                            exact ⟨⟨rx, ⟨r1, r2, r3, r4, r5, r6, r7, r8, rl⟩⟩, _, .slice rb nrb rcb, .slice ru nru rcu, HM2.out, NN.out.1, NN.out.2.1, NN.out.2.2.1, NN.out.2.2.2.1, NN.out.2.2.2.2⟩
                          · have hlb : (lt == 0) = false := by simpa using hl0
                            clear hl0
                            go_wp2_with fail
                            go_meet
                            exact ⟨x1, g1, zb, zu, HMS.out, M3.out, B3.out, C3.out, F0.out, F1.out⟩
                        case rest =>
                          obtain ⟨x1, g1, zb, zu, hms, hm3, hb3, hc3, hf0, hf1⟩ := hcut
                          have HMS := Lib.hid hms
                          have M3 := Lib.hid hm3
                          have B3 := Lib.hid hb3
                          have C3 := Lib.hid hc3
                          have F1 := Lib.hid hf1
                          clear hms hm3 hb3 hc3 hf0 hf1
                          obtain ⟨W3, hW3⟩ : ∃ W, W = wc := ⟨_, rfl⟩
                          subst hW3
                          go_upto_region 35 with fail
                          obtain ⟨us, hus, husr⟩ := M3.out.wo
                          have hdu := M3.out.du
                          have hul := hus.1
                          rw [HNH.out] at hus hdu hul
                          obtain ⟨ib, hib, hib0, hib1, hib2⟩ := info_parts info_bytesL
                          obtain ⟨ii, hii, hii0, hii1, hii2⟩ := info_parts info_intL
                          have OW := Lib.hid hus
                          have OD := Lib.hid hdu
                          have HUR := Lib.hid husr
                          have HUL := Lib.hid hul
                          have hbs := M3.out.bs
                          have HBS := Lib.hid hbs
                          have HND := Lib.hid M3.out.ne
                          have q1 : ∀ j, W3.cell? ⟨CB, j, none⟩ = (#[.slice f0 (npb + 8) k0, .slice f1 (npb + 8) k1] : Array Value)[j]? := C3.out.cell
                          have hD2 := max_ways HDD.out.1
                          have hw8 : ∀ d : Int, 0 ≤ d → d ≤ 5 → IntKind.i64.wrap ((k : Int) + d) = k + d := fun d h1 h2 => kd_in HKN.out h1 h2
                          have HW8 := Lib.hid hw8
                          clear hus hdu husr hul hbs hw8
                          generalize hdd : (H.map fun s => Value.int .i64 (s.t + D)) = ds at *
                          have HDS := Lib.hid hdd
                          clear hdd
                          rcases hD2 with ⟨hl1, hD1⟩ | ⟨hl1, hD1⟩
                          all_goals
                            have hl2 : decide (lt < 1) = decide (lt < 1) := rfl
                            clear hl2
                            have HD1 := Lib.hid hD1
                            clear hD1
                            have HWK := Lib.hid (HW8.out 1 (by decide) (by decide))
                            have HWK2 := Lib.hid (HW8.out lt HD0.out.1 HD0.out.2)
                            go_wp2_with (first
                              | (at_builtin; refine wpList_append_src _ rfl (.tmp 133) (.tmp 136) _ rfl base 51 ib _ 1 24 Try.underlying41 hib hib0 hib1 hib2 rfl (by decide) (.slice wa nh wcap) nh us rfl (OW.out.alloc _) _ 1 1 [.slice f1 (npb + 8) k1] rfl (Src.litB W3 #[.slice f1 (npb + 8) k1] 51 1 _ (by simp) rfl (by simp [Value.oneCell'])) (nh_max HN8.out) (nh_max24 HN8.out) (by simp only [World.size_alloc]; exact Nat.le_succ_of_le HBS.out) ?_
                                 intro A4 k4 w4 o4 g4 t4'
                                 have O4 := Lib.hid o4
                                 have G4 := Lib.hid (And.intro g4 t4')
                                 have O5 := Lib.hid (own_grown (OD.out.alloc (.cells #[.slice f1 (npb + 8) k1] 51)) g4 (fun g hg e => HND.out g e hg))
                                 have hbs4 : base ≤ w4.heap.size := Nat.le_trans (Nat.le_succ_of_le HBS.out) (by have := g4.size; simpa using this)
                                 clear o4 g4 t4')
                              | (at_builtin; refine wpList_append_src _ rfl (.tmp 138) (.tmp 143) _ rfl base 3 ii _ 1 8 Try.underlying42 hii hii0 hii1 hii2 rfl (by decide) (.slice da nh dcap) nh ds rfl (O5.out.alloc _) _ 1 1 [.int .i64 _] rfl (Src.litB w4 #[.int .i64 _] 3 1 _ (by simp) rfl (by simp [Value.oneCell'])) (nh_max HN8.out) (nh_max8 HN8.out) (by simp only [World.size_alloc]; exact Nat.le_succ_of_le hbs4) ?_
                                 intro A6 k6 w6 o6 g6 t6'
                                 have O6 := Lib.hid o6
                                 have G6 := Lib.hid (And.intro g6 t6')
                                 clear o6 g6 t6')
                              | go_in)
                            obtain ⟨W6, hW6⟩ : ∃ W, W = w6 := ⟨_, rfl⟩
                            subst hW6
                            have APP := Lib.hid (Mem.app_at M3.out HNH.out HDS.out HD1.out (by first | exact kd_w64 HKN.out (d := 1) (by decide) (by decide) | exact kd_w64 HKN.out HD0.out.1 HD0.out.2) HUR.out HUL.out F1.out O4.out G4.out O6.out G6.out B3.out HNB.out)
                            have M6 := Lib.hid APP.out.1
                            have B6 := Lib.hid APP.out.2
                            have SEQ := Lib.hid (show Value.int .i64 ((nh + 1 : Nat) : Int) = .int .i64 (((H ++ [(⟨m, (k : Int)⟩ : Snt)]).length : Nat) : Int) by rw [List.length_append, List.length_singleton, HNH.out])
                            have HLR := Lib.hid (HMS.out.more0 HL.out HP1.out.1 HP1.out.2 HLA.out HDD.out.2.1 HNH.out)
                            have HMO1 := Lib.hid HMS.out.mo
                            clear q1 APP
                            go_wp2_with fail
                            rw [rounds_succ]
                            go_wp2_with fail
                            go_meet
                            exact ⟨x1, (H ++ [(⟨m, (k : Int)⟩ : Snt)]), g1, zb, zu, SEQ.out, HLR.out, HMO1.out, M6.out, B6.out⟩
                case rest =>
                  obtain ⟨x1, H2, g1, zb, zu, hsq, hlr, hmo, hm6, hb6⟩ := hcut
                  subst hsq
                  obtain ⟨sw2, hsw2⟩ : ∃ s, s = u10 := ⟨_, rfl⟩
                  subst hsw2
                  obtain ⟨sd2, hsd2⟩ : ∃ s, s = u11 := ⟨_, rfl⟩
                  subst hsd2
                  have HLR := Lib.hid hlr
                  have HMO1 := Lib.hid hmo
                  have M6 := Lib.hid hm6
                  have B6 := Lib.hid hb6
                  clear hlr hmo hm6 hb6 hMx hBx hSx HMX HL HPS HM
                  obtain ⟨W6, hW6⟩ : ∃ W, W = wc := ⟨_, rfl⟩
                  subst hW6
                  go_upto_region 36 with fail
                  have HVD := Lib.hid (fun w1 v => valid_any ⟨t1, t2, t3, t4, t5, t6, t7, t8, tl⟩ v w1)
                  have HMO := Lib.hid (show validS ⟨t1, t2, t3, t4, t5, t6, t7, t8, tl⟩ = true → ¬ (x1.sub.state < t4) from fun hv => by
                    have h1 : t3 = true := by
                      cases t3
                      · simp [validS] at hv
                      · rfl
                    have h2 : t4 ≤ x1.sub.state := (HMO1.out h1).2
                    exact Int.not_lt.2 h2)
                  generalize validS ⟨t1, t2, t3, t4, t5, t6, t7, t8, tl⟩ = vd at *
                  have qB : ∀ j, W6.cell? ⟨BB, j, none⟩ = (#[.int .i64 t1, .int .i64 t2, .bool t3, .int .i64 t4, .int .i64 t5, .int .i64 t6, .int .i64 t7, .bool t8, .slice a7 nt c7] : Array Value)[j]? := B6.out.cell
                  obtain ⟨zb1, zbc, hzb, _, _⟩ := M6.out.xb.form
                  obtain ⟨zu1, zuc, hzu, _, _⟩ := M6.out.xs.form
                  subst hzb hzu
                  have qX : ∀ j, W6.cell? ⟨BX, j, none⟩ = (stC (.slice zb1 x1.box.length zbc) x1.sub (.slice zu1 x1.sub.vals.length zuc))[j]? := M6.out.bx.cell
                  go_wp2_with fail
                  refine (HVD.out _ _).mono ?_
                  rintro e wv ⟨rfl, xv⟩
                  have HMV := Lib.hid (M6.out.to xv)
                  have BV := Lib.hid (B6.out.ext xv)
                  clear qB qX
                  have HEB := Lib.hid (Nat.zero_lt_one)
                  cases vd
                  · go_wp2_with fail
                    go_roundw
                    case rel => exact ⟨k + 1, ⟨y1, y2, y3, y4, y5, y6, y7, y8, y9, y10, y11, y12, yl⟩, x1, H2, g1, last', _, _, _, KUP.out, kdx_up HKN.out, rfl, rfl, HLR.out, HMV.out⟩
                    case measure => exact kes_up HKN.out
                  · have hst := HMO.out rfl
                    obtain ⟨eb, ⟨e1, e2, e3, e4, e5, e6, e7, e8, el⟩⟩ := x1
                    simp only at *
                    have hsb : decide (e4 < t4) = false := by simpa using hst
                    have qB : ∀ j, wv.cell? ⟨BB, j, none⟩ = (#[.int .i64 t1, .int .i64 t2, .bool t3, .int .i64 t4, .int .i64 t5, .int .i64 t6, .int .i64 t7, .bool t8, .slice a7 nt c7] : Array Value)[j]? := BV.out.cell
                    generalize hn1 : eb.length = neb at *
                    generalize hn2 : el.length = neu at *
                    clear hst hn1 hn2
                    have qX : ∀ j, wv.cell? ⟨BX, j, none⟩ = (#[.slice zb1 neb zbc, .int .i64 e1, .int .i64 e2, .bool e3, .int .i64 e4, .int .i64 e5, .int .i64 e6, .int .i64 e7, .bool e8, .slice zu1 neu zuc] : Array Value)[j]? := HMV.out.bx.cell
                    go_wp2_with fail
                    go_roundw
                    case rel => exact ⟨k + 1, ⟨y1, y2, y3, y4, y5, y6, y7, y8, y9, y10, y11, y12, yl⟩, ⟨eb, ⟨e1, e2, e3, e4, e5, e6, e7, e8, el⟩⟩, H2, g1, last', _, _, _, KUP.out, kdx_up HKN.out, rfl, rfl, HLR.out, HMV.out⟩
                    case measure => exact kes_up HKN.out
      · have hkn : k = n + 30 := Nat.le_antisymm hk (Nat.le_of_not_lt hlt1)
        subst hkn
        have hend := end_ok (n := (n : Int)) HL.out.pi HL.out.si HL.out.ar HDD.out.2.2 HL.out.hv (Int.natCast_nonneg n) (by have := HNL.out; omega)
        have hnw : IntKind.i64.wrap ((n : Int) + 30) = n + 30 := IntWalk.i64_in _ (by have := HNL.out; omega)
        have hki : ¬ (((n + 30 : Nat) : Int) < (n : Int) + 30) := by have := HNL.out; omega
        have hki2 : ((n + 30 : Nat) : Int) = (n : Int) + 30 := by omega
        have HVA := Lib.hid (fun v w1 => valid_any x.sub v w1)
        rw [hend.1] at HVA
        have HSV := Lib.hid (fun va vb w1 h h' => sameVals_any (valsI last) (valsI last) va vb w1 h h')
        simp only [decide_true] at HSV
        obtain ⟨hsv, HVI⟩ : x.sub.vals = valsI last ∧ Hid True := ⟨hend.2, Lib.hid trivial⟩
        have HV := Lib.hid (fun w1 => values_any last w1)
        obtain ⟨zb1, zbc, hzb, _, _⟩ := HM.out.xb.form
        obtain ⟨zu1, zuc, hzu, _, _⟩ := HM.out.xs.form
        subst hzb hzu
        have HRSA := Lib.hid (fun w' (he : Ext wr w') => (HM.out.xs.ext he).weak (by omega) (V' := Any) (fun _ _ h => h.elim))
        have HXC := Lib.hid (fun w' (he : Ext wr w') => (HM.out.bx.ext he).cell)
        have HX := Lib.hid HM.out.ext
        clear hend HM HL HIN HIB HLN HLM
        obtain ⟨eb, ⟨e1, e2, e3, e4, e5, e6, e7, e8, el⟩⟩ := x
        simp only at *
        subst hsv
        generalize valsI last = L at *
        generalize hn1 : eb.length = neb at *
        generalize hn2 : L.length = neu at *
        have HN0 := Lib.hid hn2
        clear hn1 hn2
        have HSC : Hid (∀ w', Ext wr w' → ∀ j, w'.cell? ⟨BX, j, none⟩ = (#[.slice zb1 neb zbc, .int .i64 e1, .int .i64 e2, .bool e3, .int .i64 e4, .int .i64 e5, .int .i64 e6, .int .i64 e7, .bool e8, .slice zu1 neu zuc] : Array Value)[j]?) := HXC
        clear HXC
        have qs : ∀ j, wr.cell? ⟨BX, j, none⟩ = (#[.slice zb1 neb zbc, .int .i64 e1, .int .i64 e2, .bool e3, .int .i64 e4, .int .i64 e5, .int .i64 e6, .int .i64 e7, .bool e8, .slice zu1 neu zuc] : Array Value)[j]? := HSC.out _ (Ext.refl wr)
        go_upto_region 38 with fail
        go_region_held3 (fun w' => ∀ j, w'.cell? ⟨BX, j, none⟩ = (#[.slice zb1 neb zbc, .int .i64 e1, .int .i64 e2, .bool e3, .int .i64 e4, .int .i64 e5, .int .i64 e6, .int .i64 e7, .bool e8, .slice zu1 neu zuc] : Array Value)[j]?)
          (first | (with_reducible exact qs) | (exact HSC.out _ (by first | (with_reducible exact (Ext.refl wr).drew) | (with_reducible exact E4) | (with_reducible exact E5) | (with_reducible exact E6))) | fail)
          (first
            | (go_at_call 14; (with_reducible refine (HVA.out _ _).mono ?_); rintro e w4 ⟨rfl, x4⟩; have E4 : Ext wr w4 := (Ext.refl wr).drew.trans x4; clear x4)
            | (go_at_call 9; (with_reducible refine (HV.out _).mono ?_); rintro e w5 ⟨a5, c5, he, x5, r5⟩; rw [HN0.out] at he r5; subst he; have E5 : Ext wr w5 := E4.trans x5; have HR5 := Lib.hid (r5.weak (by omega) (V' := Any) (fun _ _ h => h.elim)); clear r5 x5)
            | (go_at_call 15; (with_reducible refine (HSV.out _ _ _ (HRSA.out _ E5) HR5.out).mono ?_); rintro e w6 ⟨rfl, x6⟩; have E6 : Ext wr w6 := E5.trans x6; clear x6)
            | fail)
        have X7 := Lib.hid (HX.out.trans E6)
        clear HSC HRSA HVA HSV HV HR5 E4 E5 E6 qs
        go_wp2_with fail
        go_ret
        exact ⟨rfl, X7.out⟩
end Go.Proofs.Ytimnepfdpehdmaa
