/- The references of layer 11 that only look: between, Same, Truth; the statements' own To, All, Large. -/
import Derived.Test.YtimnepfdpehdmaaTD
import Derived.Test.YtimnepfdpehdmaaTA
import Derived.Deep.DeepCutAuto
import Derived.Test.YtimnepfdpehdmaaTF
import Derived.Laws.ByValue
namespace Go.Proofs.Ytimnepfdpehdmaa
open Go.RowKit
attribute [local go_sem ↓] Go.wp_at_zero Go.wp_at_succ

def btw (n lo hi : Int) : Bool := decide (lo ≤ n) && decide (n ≤ hi)
theorem flat_snoc (l : List Val) (k : Nat) (x : Val) (h : l[k]? = some x) : (l.take (k + 1)).flatMap valE = (l.take k).flatMap valE ++ valE x := by
  rw [List.take_add_one, h]; simp
/-- Values that the statements speak of. -/
def largeB (l : List Val) : Bool := decide (60 < l.length) || l.any fun x => decide (200 < x.s.size)
end Go.Proofs.Ytimnepfdpehdmaa

namespace Go.Proofs.Ytimnepfdpehdmaa
open Go.RowKit
attribute [local go_sem ↓] Go.wp_at_zero Go.wp_at_succ

theorem btw_zero : btw 0 0 4294967295 = true ∧ btw 0 0 16777215 = true ∧ btw 0 0 255 = true := by decide
theorem stErr_btw (a b c : Int) : stErr a b c = if (btw a 0 4294967295 && btw b 0 16777215 && btw c 0 255) = true then 0 else 2 := by
  unfold stErr btw
  simp only [Bool.and_eq_true, decide_eq_true_eq]
  split <;> split <;> first | rfl | omega
end Go.Proofs.Ytimnepfdpehdmaa

namespace Go.Proofs.Ytimnepfdpehdmaa
open Go.RowKit
attribute [local go_sem ↓] Go.wp_at_zero Go.wp_at_succ

/-- A message with values of its own. -/
def RetMR (w : World) (m : Msg) (e : Ending) (w' : World) : Prop := ∃ a c, e = .returned (msgA m (.slice a m.vals.length c)) ∧ Ext w w' ∧ RF (Old w) 6 valE w' (.slice a m.vals.length c) m.vals
theorem numOk_iff (m : Msg) : numOk m ↔ btw m.pub 0 999 = true ∧ btw m.ttl 1 65535 = true ∧ btw m.state 1 4294967295 = true ∧ btw m.seq 0 4294967295 = true ∧ btw m.rev 0 4294967295 = true := by
  unfold numOk btw
  simp only [Bool.and_eq_true, decide_eq_true_eq]
  exact ⟨fun h => ⟨⟨h.1, h.2.1⟩, ⟨h.2.2.1, h.2.2.2.1⟩, ⟨h.2.2.2.2.1, h.2.2.2.2.2.1⟩, ⟨h.2.2.2.2.2.2.1, h.2.2.2.2.2.2.2.1⟩, ⟨h.2.2.2.2.2.2.2.2.1, h.2.2.2.2.2.2.2.2.2⟩⟩, fun h => ⟨h.1.1, h.1.2, h.2.1.1, h.2.1.2, h.2.2.1.1, h.2.2.1.2, h.2.2.2.1.1, h.2.2.2.1.2, h.2.2.2.2.1, h.2.2.2.2.2⟩⟩
/-- Two messages alike. -/
def sameM (a b : Msg) : Bool := decide (a = b)
theorem sameM_no {a b : Msg} (h : a.pub ≠ b.pub ∨ a.ttl ≠ b.ttl ∨ ¬ (a.sec = b.sec ∧ a.frac = b.frac ∧ a.qual = b.qual) ∨ a.state ≠ b.state ∨ a.seq ≠ b.seq ∨ a.test ≠ b.test ∨ a.rev ≠ b.rev) : sameM a b = false := by
  unfold sameM
  simp only [decide_eq_false_iff_not]
  intro e
  subst e
  simp at h
theorem eql_stampM (a b c a' b' c' : Int) (w : World) : (binOp .eql 26 (.agg #[.int .i64 a, .int .i64 b, .int .i64 c]) (.agg #[.int .i64 a', .int .i64 b', .int .i64 c'])).run Try.prog w = .ok (.bool (decide (a = a' ∧ b = b' ∧ c = c'))) w := by
  rw [run_eql_struct, show (10000 : Nat) = 9998 + 1 + 1 from rfl, equal_stamp]
  rfl
end Go.Proofs.Ytimnepfdpehdmaa

namespace Go.Proofs.Ytimnepfdpehdmaa
open Go.RowKit
attribute [local go_sem ↓] Go.wp_at_zero Go.wp_at_succ

/-- Values in a block of their own. -/
theorem RF.many (w : World) (cs : Array Value) (t : TypeId) (l : List Val) (B : Nat) (hB : w.heap.size = B) (hc : cs.toList = l.flatMap valE) (hm : l.length ≤ 100) : RF (Old w) 6 valE (w.alloc (.cells cs t)) (.slice (some ⟨B, 0, none⟩) l.length l.length) l := by
  subst hB
  refine RF.of_own (base := w.heap.size) (e := t) valE_len ?_ (fun _ h => h)
  have hlen : (l.flatMap valE).length = l.length * 6 := by
    clear hc hm
    induction l with
    | nil => rfl
    | cons x l ih => simp only [List.flatMap_cons, List.length_append, ih, valE_len, List.length_cons]; omega
  refine ⟨hlen, .inr ⟨w.heap.size, l.length, cs, rfl, Nat.le_refl _, Go.heap_alloc_new w _, Nat.le_refl _, by unfold maxLen; omega, ?_, ?_⟩⟩
  · rw [← Array.length_toList, hc, hlen]
  · rw [hc, List.take_of_length_le (by rw [hlen]; exact Nat.le_refl _)]
set_option maxRecDepth 100000 in
theorem header1_any (n : Int) (w : World) : Calls Try.prog 55 #[.int .i64 n] w fun e w' => e = .returned (valA ⟨2, n, ⟨#[]⟩, 0, 0, 0⟩) ∧ Ext w w' := by
  go_enter Try.func55, Try.ntmps55
  go_wp2
  exact bodyPost_ret (v := .agg #[.int .i64 2, .int .i64 n, .string ⟨#[]⟩, .int .i64 0, .int .i64 0, .int .i64 0]) (by simp [results, Try.results55, go_sem]) rfl ⟨rfl, (Ext.refl _).alloc _⟩

set_option maxRecDepth 100000 in
set_option maxHeartbeats 8000000 in
theorem header_any (m : Msg) (u : Value) (w : World) : Calls Try.prog 30 #[msgA m u] w (RetV w (headM m)) := by
  obtain ⟨cm, hcm⟩ : ∃ cm, RetV w (headM m) = cm := ⟨_, rfl⟩
  rw [hcm]
  have HF : Hid (∀ w1 cs, Ext w w1 → cs.toList = (headM m).flatMap valE → cm (.returned (.slice (some ⟨w1.heap.size, 0, none⟩) 7 7)) (w1.alloc (.cells cs 78))) := hcm ▸ fun w1 cs he hc => ⟨_, _, rfl, he.alloc _, (RF.many w1 cs 78 (headM m) _ rfl hc (by simp [headM])).weak (by omega) (fun g _ hg => he.lt hg)⟩
  clear hcm
  obtain ⟨m1, m2, m3, m4, m5, m6, m7, m8, m9, vm⟩ := m
  have H1 := Lib.hid (fun w1 => header1_any m1 w1)
  have H2 := Lib.hid (fun w1 => header1_any m2 w1)
  have H3 := Lib.hid (fun w1 => header1_any m6 w1)
  have H4 := Lib.hid (fun w1 => header1_any m7 w1)
  have H5 := Lib.hid (fun w1 => truth_any m8 w1)
  have H6 := Lib.hid (fun w1 => header1_any m9 w1)
  simp only [headM, tru] at HF
  simp only [tru] at H5
  obtain ⟨tb, htb⟩ : ∃ tb : Int, (if m8 then 1 else 0) = tb := ⟨_, rfl⟩
  rw [htb] at HF H5
  clear htb
  try simp only at *
  go_enter Try.func30, Try.ntmps30
  go_upto_region 2 with fail
  have BV := Bk.new w #[.int .i64 m1, .int .i64 m2, .int .i64 m3, .int .i64 m4, .int .i64 m5, .int .i64 m6, .int .i64 m7, .bool m8, .int .i64 m9, u] 55 w.heap.size rfl
  have X0 : Ext w (w.alloc (.cells #[.int .i64 m1, .int .i64 m2, .int .i64 m3, .int .i64 m4, .int .i64 m5, .int .i64 m6, .int .i64 m7, .bool m8, .int .i64 m9, u] 55)) := (Ext.refl w).alloc _
  generalize w.alloc (.cells #[.int .i64 m1, .int .i64 m2, .int .i64 m3, .int .i64 m4, .int .i64 m5, .int .i64 m6, .int .i64 m7, .bool m8, .int .i64 m9, u] 55) = W at *
  have HBC : Hid (∀ w', Ext W w' → ∀ j, w'.cell? ⟨w.heap.size, j, none⟩ = (#[.int .i64 m1, .int .i64 m2, .int .i64 m3, .int .i64 m4, .int .i64 m5, .int .i64 m6, .int .i64 m7, .bool m8, .int .i64 m9, u] : Array Value)[j]?) := fun w' he => (BV.ext he).cell
  clear BV
  go_region_held3 (fun w' => ∀ j, w'.cell? ⟨w.heap.size, j, none⟩ = (#[.int .i64 m1, .int .i64 m2, .int .i64 m3, .int .i64 m4, .int .i64 m5, .int .i64 m6, .int .i64 m7, .bool m8, .int .i64 m9, u] : Array Value)[j]?)
    (first | (exact HBC.out _ (by first | (with_reducible exact (Ext.refl W).drew) | (with_reducible exact D1) | (with_reducible exact D2) | (with_reducible exact D3) | (with_reducible exact D4) | (with_reducible exact D5) | (with_reducible exact D6) | (with_reducible exact D6.alloc _) | fail)) | fail)
    (first
      | (go_at_call 55; (with_reducible refine (H1.out _).mono ?_); rintro e y1 ⟨rfl, g1⟩; have D1 : Ext W y1 := (Ext.refl W).drew.trans g1; clear g1)
      | (go_at_call 55; (with_reducible refine (H2.out _).mono ?_); rintro e y2 ⟨rfl, g2⟩; have D2 : Ext W y2 := D1.trans g2; clear g2)
      | (go_at_call 55; (with_reducible refine (H3.out _).mono ?_); rintro e y3 ⟨rfl, g3⟩; have D3 : Ext W y3 := D2.trans g3; clear g3)
      | (go_at_call 55; (with_reducible refine (H4.out _).mono ?_); rintro e y4 ⟨rfl, g4⟩; have D4 : Ext W y4 := D3.trans g4; clear g4)
      | (go_at_call 23; (with_reducible refine (H5.out _).mono ?_); rintro e y5 ⟨rfl, g5⟩; have D5 : Ext W y5 := D4.trans g5; clear g5)
      | (go_at_call 55; (with_reducible refine (H6.out _).mono ?_); rintro e y6 ⟨rfl, g6⟩; have D6 : Ext W y6 := D5.trans g6; clear g6)
      | fail)
  all_goals
    go_wp2_with fail
    exact HF.out _ _ (X0.trans D6) rfl

end Go.Proofs.Ytimnepfdpehdmaa

namespace Go.Proofs.Ytimnepfdpehdmaa
open Go.RowKit
attribute [local go_sem ↓] Go.wp_at_zero Go.wp_at_succ

set_option maxRecDepth 100000 in
set_option maxHeartbeats 8000000 in
theorem encMP_any (m : Msg) (v : Value) (w : World) (hv : RF Any 6 valE w v m.vals) : Calls Try.prog 12 #[msgA m v] w (RetBE w (encMB m) (encME m)) := by
  have HC := Lib.hid (fun w1 (he : Ext w w1) => checkM_any m v w1 (hv.ext he))
  by_cases hc : chkM m = 0
  · obtain ⟨i0, hi0, hz0, hz1, hz2⟩ := info_parts info_nodeP
    obtain ⟨_, hst, hl24, hve⟩ := chkM_zero m hc
    have HH := Lib.hid (fun w1 => header_any m v w1)
    have HN1 := Lib.hid (fun w1 v1 (h : RF (Old w) 6 valE w1 v1 (headM m)) => nodesP_own 1 (headM m) v1 w1 h (by simp [headM]))
    have HN2 := Lib.hid (fun w1 (he : Ext w w1) => nodesP_any 0 m.vals v w1 (hv.ext he) (by omega))
    have HV1 := Lib.hid (vErr_head m hst)
    have HV2 := Lib.hid hve
    have hEB : encMB m = encOut 3 [nodeM m] := by unfold encMB; rw [if_pos hc]
    have hEE : encME m = encErr 3 [nodeM m] := by unfold encME; rw [if_pos hc]
    rw [hEB, hEE]
    have HE := Lib.hid (fun w1 v1 (h : (RkN 3).rk Any w1 v1 [nodeM m]) => encodeP_any 3 Any [nodeM m] v1 w1 h (Nat.le_trans (cnt_msg m hc) (by omega)))
    generalize encOut 3 [nodeM m] = EB at *
    generalize encErr 3 [nodeM m] = EE at *
    rw [hc] at HC
    have hlh : (headM m).length = 7 := rfl
    generalize hhd : headM m = hd at *
    have HK : Hid (kidsM m = reTag (α := Nd 1) 7 (hd.map (nodeV 1)) ++ [((167, [], m.vals.map (nodeV 0)) : NodeOf (Nd 1))]) := by rw [← hhd]; rfl
    have HNM : Hid (nodeM m = ((97, [], kidsM m) : NodeOf (Nd 2))) := rfl
    have HLH := Lib.hid hlh
    obtain ⟨a, c, rfl, hc1, hc2⟩ := hv.form
    generalize kidsM m = km at *
    generalize nodeM m = nm at *
    clear hEB hEE hst hve hc hv hhd hlh
    obtain ⟨m1, m2, m3, m4, m5, m6, m7, m8, m9, vs⟩ := m
    simp only at *
    generalize hn : vs.length = n at *
    have HNN := Lib.hid hn
    clear hn
    go_enter Try.func12, Try.ntmps12
    go_upto_region 1 with fail
    have BV := Bk.new w #[.int .i64 m1, .int .i64 m2, .int .i64 m3, .int .i64 m4, .int .i64 m5, .int .i64 m6, .int .i64 m7, .bool m8, .int .i64 m9, .slice a n c] 55 w.heap.size rfl
    have X0 : Ext w (w.alloc (.cells #[.int .i64 m1, .int .i64 m2, .int .i64 m3, .int .i64 m4, .int .i64 m5, .int .i64 m6, .int .i64 m7, .bool m8, .int .i64 m9, .slice a n c] 55)) := (Ext.refl w).alloc _
    generalize w.alloc (.cells #[.int .i64 m1, .int .i64 m2, .int .i64 m3, .int .i64 m4, .int .i64 m5, .int .i64 m6, .int .i64 m7, .bool m8, .int .i64 m9, .slice a n c] 55) = W at *
    have q1 : ∀ j, W.cell? ⟨w.heap.size, j, none⟩ = (#[.int .i64 m1, .int .i64 m2, .int .i64 m3, .int .i64 m4, .int .i64 m5, .int .i64 m6, .int .i64 m7, .bool m8, .int .i64 m9, .slice a n c] : Array Value)[j]? := BV.cell
    go_wp2_with fail
    refine (HC.out _ X0).mono ?_
    rintro e w2 ⟨rfl, x2⟩
    have q2 : ∀ j, w2.cell? ⟨w.heap.size, j, none⟩ = (#[.int .i64 m1, .int .i64 m2, .int .i64 m3, .int .i64 m4, .int .i64 m5, .int .i64 m6, .int .i64 m7, .bool m8, .int .i64 m9, .slice a n c] : Array Value)[j]? := (BV.ext x2).cell
    clear q1
    go_wp2_with fail
    refine (HH.out _).mono ?_
    rintro e w3 ⟨a3, c3, he3, x3, r3⟩
    rw [HLH.out] at he3 r3
    subst he3
    have HCN := Lib.hid (HN1.out w3 _ (r3.weak (by omega) (fun g _ hg => (X0.trans x2).lt hg)))
    clear q2 r3 HN1 HH HC
    go_wp2_with fail
    refine HCN.out.mono ?_
    rintro e w4 (⟨h0, _⟩ | ⟨_, a4, c4, he4, x4, r4⟩)
    · exact absurd HV1.out h0
    rw [HLH.out] at he4 r4
    subst he4
    obtain ⟨g, c5, cur, hv5, hg5, hb5, hs5⟩ := r4.blk (by rw [List.length_map, HLH.out]; omega)
    rw [List.length_map, HLH.out] at hv5 hs5
    simp only [Value.slice.injEq, true_and] at hv5
    obtain ⟨rfl, rfl⟩ := hv5
    have X3 : Ext W w3 := x2.trans x3
    have HX4 := Lib.hid x4
    have HB4 := Lib.hid r4
    have HG5 := Lib.hid hg5
    clear r4 hb5 hs5 HCN x4 x3 x2 cur
    go_wp2_with fail
    go_loopw [25] (fun i wr => ∃ (k : Nat), k ≤ 7 ∧ i = .int .i64 k ∧ Built (RkN 1) (Old w3) w3.heap.size 95 wr (.slice (some ⟨g, 0, none⟩) 7 c4) (reTag (α := Nd 1) k (hd.map (nodeV 1))) ∧ Ext w3 wr) (fun i _ => 7 - (intOf i).toNat)
    case atStart => exact ⟨0, by omega, rfl, by rw [reTag_zero]; exact HB4.out, HX4.out⟩
    case round =>
      obtain ⟨k, hk, rfl, hbt, hx⟩ := hrel
      by_cases hlt : k < 7
      · have hki : (k : Int) < 7 := by omega
        have hlr : (reTag (α := Nd 1) k (hd.map (nodeV 1))).length = 7 := by rw [reTag_len, List.length_map, HLH.out]
        obtain ⟨g', c', cur, hv', _, hbk, hsz⟩ := hbt.blk (by rw [hlr]; omega)
        simp only [Value.slice.injEq, Option.some.injEq, Addr.mk.injEq, and_true] at hv'
        obtain ⟨rfl, _, rfl⟩ := hv'
        rw [hlr] at hsz
        obtain ⟨x0, hx0⟩ : ∃ x0, cur[k * 3]? = some x0 := ⟨_, Array.getElem?_eq_getElem (by omega)⟩
        have qk : wr.cell? ⟨g, k * 3, none⟩ = some x0 := (hbk.cell (k * 3)).trans hx0
        have fk := hbk.frozen (k * 3)
        have HBT := Lib.hid hbt
        have HX := Lib.hid hx
        clear hbt hbk hsz hx0 hx hlr
        go_wp2_with fail
        go_roundw
        case rel =>
          refine ⟨k + 1, by omega, by go_num, ?_, HX.out.setCell (by exact HG5.out) _⟩
          rw [reTag_next k _ (by rw [List.length_map, HLH.out]; exact hlt)]
          exact HBT.out.setTag k (by rw [reTag_len, List.length_map, HLH.out]; exact hlt) _
        case measure => simp [intOf]; omega
      · have hki : ¬ (k : Int) < 7 := by omega
        obtain rfl : k = 7 := by omega
        have q5 : ∀ j, wr.cell? ⟨w.heap.size, j, none⟩ = (#[.int .i64 m1, .int .i64 m2, .int .i64 m3, .int .i64 m4, .int .i64 m5, .int .i64 m6, .int .i64 m7, .bool m8, .int .i64 m9, .slice a n c] : Array Value)[j]? := (BV.ext (X3.trans hx)).cell
        have HCV := Lib.hid (HN2.out wr ((X0.trans X3).trans hx))
        have HBT := Lib.hid hbt
        have HX := Lib.hid hx
        clear hbt hx
        go_wp2_with fail
        refine HCV.out.mono ?_
        rintro e w6 (⟨h0, _⟩ | ⟨_, a6, c6, he6, x6, r6⟩)
        · exact absurd HV2.out h0
        rw [HNN.out] at he6 r6
        subst he6
        obtain ⟨flat, hown, hgrow⟩ := HBT.out.grow
        have hlr : (reTag (α := Nd 1) 7 (hd.map (nodeV 1))).length = 7 := by rw [reTag_len, List.length_map, HLH.out]
        rw [hlr] at hown hgrow
        have HOW := Lib.hid (own_ext hown x6)
        have HGR := Lib.hid hgrow
        have HWL := Lib.hid (With.lt (V := Old w3) (fun k hk => Nat.lt_of_lt_of_le hk HX.out.size) hown)
        go_wp2_with (at_builtin; refine wpList_append_src _ rfl (.tmp 44) (.tmp 47) _ rfl w3.heap.size 95 i0 _ 3 56 Try.underlying90 hi0 hz0 hz1 hz2 rfl (by omega) _ 7 flat rfl (HOW.out.alloc _) _ 1 1 [.int .i64 167, .slice none 0 0, .slice a6 n c6] rfl (Src.litB _ #[.int .i64 167, .slice none 0 0, .slice a6 n c6] _ 3 _ (by simp) rfl (by simp [Value.oneCell'])) (by unfold maxLen; omega) (by omega) (by simp; exact Nat.le_succ_of_le (HX.out.trans x6).size) ?_; intro A7 c7 w7 hown7 hg7 hat7)
        have HB7 := Lib.hid (HGR.out ((167, [], vs.map (nodeV 0)) : NodeOf (Nd 1)) [.int .i64 167, .slice none 0 0, .slice a6 n c6] _ w7 _ (x6.alloc _) rfl ⟨_, _, rfl, RB.nil _ _, (RkN 1).weak ((RkN 1).ext r6 ((Ext.refl _).alloc _)) (fun k _ hk => HWL.out k hk)⟩ hown7 hg7 hat7)
        have X7 : Ext w3 w7 := ((HX.out.trans x6).alloc _).grown hg7 (fun k hk => (HOW.out.lt k hk).1)
        rw [← HK.out] at HB7
        have HM7 : Hid (∀ B, w7.heap.size = B → (RkN 3).rk Any (w7.alloc (.cells #[.int .i64 97, .slice none 0 0, .slice A7 8 c7] 95)) (.slice (some ⟨B, 0, none⟩) 1 1) [nm]) := fun B hB => by
          rw [HNM.out]
          refine RS.one _ _ _ _ hB _ rfl ⟨_, _, rfl, RB.nil _ _, ?_⟩ (fun h => h)
          exact (RkN 2).ext ((RkN 2).weak (HB7.out.done (fun k hk => hk)) (fun k _ hk => hk.elim)) ((Ext.refl _).alloc _)
        have HE7 := Lib.hid (HE.out _ _ (HM7.out _ rfl))
        clear hown7 hg7 hat7 hown hgrow r6 q5
        go_wp2_with fail
        refine HE7.out.mono ?_
        rintro e w8 ⟨a8, c8, rfl, x8, r8⟩
        have XX := (((X0.trans X3).trans X7).alloc _).trans x8
        go_wp2_with fail
        go_ret2
        exact ⟨a8, c8, rfl, XX, fun V hV => r8 V (fun k hk => by have := ((X0.trans X3).trans X7).lt (hV k hk); simp; omega)⟩
  · have hEB : encMB m = [] := by unfold encMB; rw [if_neg hc]
    have hEE : encME m = chkM m := by unfold encME; rw [if_neg hc]
    rw [hEB, hEE]
    have hcb : (chkM m != 0) = true := by simpa using hc
    generalize chkM m = ce at *
    obtain ⟨a, c, rfl, hc1, hc2⟩ := hv.form
    clear hv hEB hEE hc hc1 hc2
    obtain ⟨m1, m2, m3, m4, m5, m6, m7, m8, m9, vs⟩ := m
    simp only at *
    generalize vs.length = n at *
    go_enter Try.func12, Try.ntmps12
    go_wp2_with fail
    refine (HC.out _ ((Ext.refl w).alloc _)).mono ?_
    rintro e w1 ⟨rfl, x1⟩
    go_wp2_with fail
    go_ret2
    exact RetBE.nil _ (((Ext.refl w).alloc _).trans x1)
end Go.Proofs.Ytimnepfdpehdmaa
