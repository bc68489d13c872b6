/- The walk of the statement SubscriberNeverBack. -/
import Derived.Test.YtopmhaebjpmbfaaSubN
import Derived.Test.YtopmhaebjpmbfaaSubK
namespace Go.Proofs.Ytopmhaebjpmbfaa
open Go.RowKit
attribute [local go_sem ↓] Go.wp_at_zero Go.wp_at_succ

set_option maxRecDepth 100000 in
set_option maxHeartbeats 16000000 in
theorem back_walk (l : List Evt) (v : Value) (w : World) (hl : RF Any 6 evtE w v l) : Calls Try.prog 9 #[v] w fun e w' => e = .returned (.bool true) ∧ Ext w w' := by
  have HK := Lib.hid (fun w1 => known14_any w1)
  have HN := Lib.hid (fun w1 => newSub_any 3 4 w1)
  simp only [newSub] at HN
  have HIN := Lib.hid (fun w1 (he : Ext w w1) => hl.ext he)
  obtain ⟨ia, ic, rfl, hi1, hi2⟩ := hl.form
  unfold maxLen at hi2
  clear hl
  generalize hln : l.length = ln at *
  have HLN := Lib.hid hln
  clear hln
  go_enter Try.func9, Try.ntmps9
  go_wp2_with fail
  refine (HK.out _).mono ?_
  rintro e w1 ⟨rfl, x1⟩
  go_wp2_with fail
  refine (HN.out _).mono ?_
  rintro e w2 ⟨rfl, x2⟩
  have X2 := x1.trans x2
  have HB := Lib.hid X2.size
  go_wp2_with fail
  have B2 := Bk.new w2 #[.int .i64 3, .int .i64 4, .bool false, .int .i64 0, .int .i64 0, .int .i64 0, .int .i64 0, .bool false, .slice none 0 0] 50 w2.heap.size rfl
  have X3 := X2.alloc (.cells #[.int .i64 3, .int .i64 4, .bool false, .int .i64 0, .int .i64 0, .int .i64 0, .int .i64 0, .bool false, .slice none 0 0] 50)
  generalize w2.alloc (.cells #[.int .i64 3, .int .i64 4, .bool false, .int .i64 0, .int .i64 0, .int .i64 0, .int .i64 0, .bool false, .slice none 0 0] 50) = W at *
  generalize w2.heap.size = B at *
  clear X2 x1 x2 HK HN
  go_loopw [4] (fun i wr => ∃ (k : Nat) (s : SSt) (a : Option Addr) (c : Nat), (k ≤ ln ∧ k ≤ 200) ∧ i = .int .i64 k ∧ Srel s ∧ Bk wr B 50 (subC s (.slice a s.vals.length c)) ∧ RF (· = B) 6 valE wr (.slice a s.vals.length c) s.vals ∧ Ext w wr) (fun i _ => 201 - (intOf i).toNat)
  case atStart => exact ⟨0, newSub 3 4, none, 0, by omega, rfl, rel_new, B2, RF.nil _ _ _ _, X3⟩
  case round =>
    obtain ⟨k, s, a0, c0, ⟨hk, hk2⟩, rfl, hJ, hBk, hR, hx⟩ := hrel
    clear B2 X3
    by_cases hlt : k < ln ∧ k < 200
    · obtain ⟨hlt1, hlt2⟩ := hlt
      obtain ⟨x, hxk⟩ : ∃ x, l[k]? = some x := ⟨_, List.getElem?_eq_getElem (by rw [HLN.out]; exact hlt1)⟩
      obtain ⟨ib, io, ic', hv1, i0, i1, i2, i3, i4, i5⟩ := evt_get (HIN.out wr hx) hxk
      rw [HLN.out] at hv1
      simp only [Value.slice.injEq] at hv1
      obtain ⟨rfl, -, rfl⟩ := hv1
      clear hxk
      have hki : (k : Int) < ln := by omega
      have hki2 : (k : Int) < 200 := by omega
      have HX := Lib.hid hx
      have hvl : s.vals.length ≤ 1000000000 := by have := hJ.vl; omega
      have lB0 := hBk.lt
      cases htk : x.tick
      · have HE := Lib.hid (fun w1 => evMsg_any x w1)
        have HTk := Lib.hid (fun w1 v u h1 h2 => take_any s (evM x) v u w1 h1 h2 hvl (by have := hJ.o0; have := hJ.o1; omega))
        obtain ⟨hJ2, hT⟩ := rel_take hJ x
        have HRA := Lib.hid (fun w' (he : Ext wr w') => (hR.ext he).weak (by omega) (V' := Any) (fun _ _ h => h.elim))
        rw [htk] at i5
        clear hR hx hJ hvl
        have HJ := Lib.hid hJ2
        clear hJ2
        obtain ⟨z, hz⟩ : ∃ z, takeS s (evM x) = z := ⟨_, rfl⟩
        rw [hz] at HTk HJ hT
        clear hz
        obtain ⟨t, kk⟩ := z
        generalize evM x = m at *
        obtain ⟨e1, e2, e3, e4, e5, e6⟩ := x
        have HSA := Lib.hid (fun v v' w1 h1 h2 => sameSub_eq s v v' w1 h1 h2)
        obtain ⟨hw, hnew, hold⟩ := hT
        have HOLD := Lib.hid hold
        have HNEW := Lib.hid hnew
        clear hold hnew
        obtain ⟨s1, s2, s3, s4, s5, s6, s7, s8, vs⟩ := s
        obtain ⟨t1, t2, t3, t4, t5, t6, t7, t8, vt⟩ := t
        obtain ⟨m1, m2, m3, m4, m5, m6, m7, m8, m9, vm⟩ := m
        simp only at *
        subst htk
        generalize hn : vs.length = n at *
        have HNS := Lib.hid hn
        generalize hnt : vt.length = nt at *
        have HNT := Lib.hid hnt
        generalize hnm : vm.length = nm at *
        have HNM := Lib.hid hnm
        clear hnt hnm hn
        have HBA : Hid (∀ w', Ext wr w' → Bk w' B 50 #[.int .i64 s1, .int .i64 s2, .bool s3, .int .i64 s4, .int .i64 s5, .int .i64 s6, .int .i64 s7, .bool s8, .slice a0 n c0]) := fun w' he => hBk.ext he
        have q0 : ∀ j, wr.cell? ⟨B, j, none⟩ = (#[.int .i64 s1, .int .i64 s2, .bool s3, .int .i64 s4, .int .i64 s5, .int .i64 s6, .int .i64 s7, .bool s8, .slice a0 n c0] : Array Value)[j]? := hBk.cell
        clear hBk
        go_wp2_with fail
        refine (HE.out _).mono ?_
        rintro e w2 ⟨a1, c1, he, x2, r2⟩
        simp only [HNM.out] at he r2
        subst he
        clear q0
        go_upto_region 10 with fail
        have B3 := Lib.hid ((HBA.out _ x2).alloc (.cells #[.int .i64 m1, .int .i64 m2, .int .i64 m3, .int .i64 m4, .int .i64 m5, .int .i64 m6, .int .i64 m7, .bool m8, .int .i64 m9, .slice a1 nm c1] 39))
        have M3 := Lib.hid (Bk.new w2 #[.int .i64 m1, .int .i64 m2, .int .i64 m3, .int .i64 m4, .int .i64 m5, .int .i64 m6, .int .i64 m7, .bool m8, .int .i64 m9, .slice a1 nm c1] 39 w2.heap.size rfl)
        have RS3 := Lib.hid (HRA.out _ (x2.alloc (.cells #[.int .i64 m1, .int .i64 m2, .int .i64 m3, .int .i64 m4, .int .i64 m5, .int .i64 m6, .int .i64 m7, .bool m8, .int .i64 m9, .slice a1 nm c1] 39)))
        have RM3 := Lib.hid ((r2.ext ((Ext.refl w2).alloc (.cells #[.int .i64 m1, .int .i64 m2, .int .i64 m3, .int .i64 m4, .int .i64 m5, .int .i64 m6, .int .i64 m7, .bool m8, .int .i64 m9, .slice a1 nm c1] 39))).weak (by omega) (V' := Any) (fun _ _ h => h.elim))
        have E3 : Ext wr (w2.alloc (.cells #[.int .i64 m1, .int .i64 m2, .int .i64 m3, .int .i64 m4, .int .i64 m5, .int .i64 m6, .int .i64 m7, .bool m8, .int .i64 m9, .slice a1 nm c1] 39)) := x2.alloc _
        clear r2 x2 i0 i1 i2 i3 i4 i5
        generalize w2.alloc (.cells #[.int .i64 m1, .int .i64 m2, .int .i64 m3, .int .i64 m4, .int .i64 m5, .int .i64 m6, .int .i64 m7, .bool m8, .int .i64 m9, .slice a1 nm c1] 39) = w3 at *
        generalize w2.heap.size = mb at *
        have q0 := B3.out.cell
        have q2 := M3.out.cell
        go_wp2_with fail
        refine (HTk.out _ _ _ RS3.out RM3.out).mono ?_
        rintro e w4 ⟨a2, c2, he, x4, r4⟩
        simp only [HNT.out] at he r4
        subst he
        clear q0 q2
        go_upto_region 11 with fail
        have B5 := Lib.hid ((B3.out.ext x4).alloc (.cells #[.int .i64 t1, .int .i64 t2, .bool t3, .int .i64 t4, .int .i64 t5, .int .i64 t6, .int .i64 t7, .bool t8, .slice a2 nt c2] 50))
        have M5 := Lib.hid ((M3.out.ext x4).alloc (.cells #[.int .i64 t1, .int .i64 t2, .bool t3, .int .i64 t4, .int .i64 t5, .int .i64 t6, .int .i64 t7, .bool t8, .slice a2 nt c2] 50))
        have T5 := Lib.hid (Bk.new w4 #[.int .i64 t1, .int .i64 t2, .bool t3, .int .i64 t4, .int .i64 t5, .int .i64 t6, .int .i64 t7, .bool t8, .slice a2 nt c2] 50 w4.heap.size rfl)
        have RS5 := Lib.hid (RS3.out.ext (x4.alloc (.cells #[.int .i64 t1, .int .i64 t2, .bool t3, .int .i64 t4, .int .i64 t5, .int .i64 t6, .int .i64 t7, .bool t8, .slice a2 nt c2] 50)))
        have RT5 := Lib.hid ((r4.ext ((Ext.refl w4).alloc (.cells #[.int .i64 t1, .int .i64 t2, .bool t3, .int .i64 t4, .int .i64 t5, .int .i64 t6, .int .i64 t7, .bool t8, .slice a2 nt c2] 50))).weak (by omega) (V' := (· = B)) (fun g _ hg => by rw [hg]; exact B3.out.lt))
        have E5 : Ext wr (w4.alloc (.cells #[.int .i64 t1, .int .i64 t2, .bool t3, .int .i64 t4, .int .i64 t5, .int .i64 t6, .int .i64 t7, .bool t8, .slice a2 nt c2] 50)) := (E3.trans x4).alloc _
        clear r4 x4 B3 M3 RS3 RM3 E3
        generalize w4.alloc (.cells #[.int .i64 t1, .int .i64 t2, .bool t3, .int .i64 t4, .int .i64 t5, .int .i64 t6, .int .i64 t7, .bool t8, .slice a2 nt c2] 50) = w5 at *
        generalize w4.heap.size = tb at *
        have q0 := B5.out.cell
        have f0 := B5.out.frozen
        have q1 := T5.out.cell
        have q2 := M5.out.cell
        have RTA := Lib.hid (RT5.out.weak (by omega) (V' := Any) (fun _ _ h => h.elim))
        rcases hw with rfl | rfl | rfl | rfl | rfl
        · go_upto_region 13 with fail
          go_upto_region 15 with fail
          have B9 := B5
          have R9 := RT5
          have HX9 := Lib.hid (HX.out.trans E5)
          obtain ⟨w9, hw9⟩ : ∃ w9, w9 = w5 := ⟨_, rfl⟩
          subst hw9
          go_upto_region 6 with fail
          change Code.wp _ _ _ _ (put w9 B 0 [.int .i64 t1, .int .i64 t2, .bool t3, .int .i64 t4, .int .i64 t5, .int .i64 t6, .int .i64 t7, .bool t8, .slice a2 nt c2])
          have C_w10 := Lib.hid (put_all (vs := [.int .i64 t1, .int .i64 t2, .bool t3, .int .i64 t4, .int .i64 t5, .int .i64 t6, .int .i64 t7, .bool t8, .slice a2 nt c2]) B9.out rfl)
          have X_w10 := Lib.hid (put_ext (a := w) HB.out [.int .i64 t1, .int .i64 t2, .bool t3, .int .i64 t4, .int .i64 t5, .int .i64 t6, .int .i64 t7, .bool t8, .slice a2 nt c2] 0 _ HX9.out)
          have R_w10 := Lib.hid ((R9.out).agree (agree_put (V := (· = B)) rfl [.int .i64 t1, .int .i64 t2, .bool t3, .int .i64 t4, .int .i64 t5, .int .i64 t6, .int .i64 t7, .bool t8, .slice a2 nt c2] 0 w9))
          generalize put w9 B 0 [.int .i64 t1, .int .i64 t2, .bool t3, .int .i64 t4, .int .i64 t5, .int .i64 t6, .int .i64 t7, .bool t8, .slice a2 nt c2] = w10 at *
          clear q0 f0 q1
          go_wp2_with fail
          go_roundw
          case rel => exact ⟨k + 1, ⟨t1, t2, t3, t4, t5, t6, t7, t8, vt⟩, a2, c2, by omega, by go_num, HJ.out, by simp only [HNT.out]; exact C_w10.out, by simp only [HNT.out]; exact R_w10.out, X_w10.out⟩
          case measure => simp [intOf] <;> omega
        · have h9 := HNEW.out (by omega)
          have d1 : decide (m6 < s4) = false := by simp only [decide_eq_false_iff_not]; omega
          by_cases hq : m6 = s4
          · have d2 : (m6 == s4) = true := by simpa using hq
            have d3 : decide (m7 ≤ s5) = false := by simp only [decide_eq_false_iff_not]; omega
            clear hq h9
            go_upto_region 15 with fail
            have B9 := B5
            have R9 := RT5
            have HX9 := Lib.hid (HX.out.trans E5)
            obtain ⟨w9, hw9⟩ : ∃ w9, w9 = w5 := ⟨_, rfl⟩
            subst hw9
            go_upto_region 6 with fail
            change Code.wp _ _ _ _ (put w9 B 0 [.int .i64 t1, .int .i64 t2, .bool t3, .int .i64 t4, .int .i64 t5, .int .i64 t6, .int .i64 t7, .bool t8, .slice a2 nt c2])
            have C_w10 := Lib.hid (put_all (vs := [.int .i64 t1, .int .i64 t2, .bool t3, .int .i64 t4, .int .i64 t5, .int .i64 t6, .int .i64 t7, .bool t8, .slice a2 nt c2]) B9.out rfl)
            have X_w10 := Lib.hid (put_ext (a := w) HB.out [.int .i64 t1, .int .i64 t2, .bool t3, .int .i64 t4, .int .i64 t5, .int .i64 t6, .int .i64 t7, .bool t8, .slice a2 nt c2] 0 _ HX9.out)
            have R_w10 := Lib.hid ((R9.out).agree (agree_put (V := (· = B)) rfl [.int .i64 t1, .int .i64 t2, .bool t3, .int .i64 t4, .int .i64 t5, .int .i64 t6, .int .i64 t7, .bool t8, .slice a2 nt c2] 0 w9))
            generalize put w9 B 0 [.int .i64 t1, .int .i64 t2, .bool t3, .int .i64 t4, .int .i64 t5, .int .i64 t6, .int .i64 t7, .bool t8, .slice a2 nt c2] = w10 at *
            clear q0 f0 q1
            go_wp2_with fail
            go_roundw
            case rel => exact ⟨k + 1, ⟨t1, t2, t3, t4, t5, t6, t7, t8, vt⟩, a2, c2, by omega, by go_num, HJ.out, by simp only [HNT.out]; exact C_w10.out, by simp only [HNT.out]; exact R_w10.out, X_w10.out⟩
            case measure => simp [intOf] <;> omega
          · have d2 : (m6 == s4) = false := by simpa using hq
            clear hq h9
            go_upto_region 15 with fail
            have B9 := B5
            have R9 := RT5
            have HX9 := Lib.hid (HX.out.trans E5)
            obtain ⟨w9, hw9⟩ : ∃ w9, w9 = w5 := ⟨_, rfl⟩
            subst hw9
            go_upto_region 6 with fail
            change Code.wp _ _ _ _ (put w9 B 0 [.int .i64 t1, .int .i64 t2, .bool t3, .int .i64 t4, .int .i64 t5, .int .i64 t6, .int .i64 t7, .bool t8, .slice a2 nt c2])
            have C_w10 := Lib.hid (put_all (vs := [.int .i64 t1, .int .i64 t2, .bool t3, .int .i64 t4, .int .i64 t5, .int .i64 t6, .int .i64 t7, .bool t8, .slice a2 nt c2]) B9.out rfl)
            have X_w10 := Lib.hid (put_ext (a := w) HB.out [.int .i64 t1, .int .i64 t2, .bool t3, .int .i64 t4, .int .i64 t5, .int .i64 t6, .int .i64 t7, .bool t8, .slice a2 nt c2] 0 _ HX9.out)
            have R_w10 := Lib.hid ((R9.out).agree (agree_put (V := (· = B)) rfl [.int .i64 t1, .int .i64 t2, .bool t3, .int .i64 t4, .int .i64 t5, .int .i64 t6, .int .i64 t7, .bool t8, .slice a2 nt c2] 0 w9))
            generalize put w9 B 0 [.int .i64 t1, .int .i64 t2, .bool t3, .int .i64 t4, .int .i64 t5, .int .i64 t6, .int .i64 t7, .bool t8, .slice a2 nt c2] = w10 at *
            clear q0 f0 q1
            go_wp2_with fail
            go_roundw
            case rel => exact ⟨k + 1, ⟨t1, t2, t3, t4, t5, t6, t7, t8, vt⟩, a2, c2, by omega, by go_num, HJ.out, by simp only [HNT.out]; exact C_w10.out, by simp only [HNT.out]; exact R_w10.out, X_w10.out⟩
            case measure => simp [intOf] <;> omega
        · have h9 := HNEW.out (by omega)
          have d1 : decide (m6 < s4) = false := by simp only [decide_eq_false_iff_not]; omega
          by_cases hq : m6 = s4
          · have d2 : (m6 == s4) = true := by simpa using hq
            have d3 : decide (m7 ≤ s5) = false := by simp only [decide_eq_false_iff_not]; omega
            clear hq h9
            go_upto_region 15 with fail
            have B9 := B5
            have R9 := RT5
            have HX9 := Lib.hid (HX.out.trans E5)
            obtain ⟨w9, hw9⟩ : ∃ w9, w9 = w5 := ⟨_, rfl⟩
            subst hw9
            go_upto_region 6 with fail
            change Code.wp _ _ _ _ (put w9 B 0 [.int .i64 t1, .int .i64 t2, .bool t3, .int .i64 t4, .int .i64 t5, .int .i64 t6, .int .i64 t7, .bool t8, .slice a2 nt c2])
            have C_w10 := Lib.hid (put_all (vs := [.int .i64 t1, .int .i64 t2, .bool t3, .int .i64 t4, .int .i64 t5, .int .i64 t6, .int .i64 t7, .bool t8, .slice a2 nt c2]) B9.out rfl)
            have X_w10 := Lib.hid (put_ext (a := w) HB.out [.int .i64 t1, .int .i64 t2, .bool t3, .int .i64 t4, .int .i64 t5, .int .i64 t6, .int .i64 t7, .bool t8, .slice a2 nt c2] 0 _ HX9.out)
            have R_w10 := Lib.hid ((R9.out).agree (agree_put (V := (· = B)) rfl [.int .i64 t1, .int .i64 t2, .bool t3, .int .i64 t4, .int .i64 t5, .int .i64 t6, .int .i64 t7, .bool t8, .slice a2 nt c2] 0 w9))
            generalize put w9 B 0 [.int .i64 t1, .int .i64 t2, .bool t3, .int .i64 t4, .int .i64 t5, .int .i64 t6, .int .i64 t7, .bool t8, .slice a2 nt c2] = w10 at *
            clear q0 f0 q1
            go_wp2_with fail
            go_roundw
            case rel => exact ⟨k + 1, ⟨t1, t2, t3, t4, t5, t6, t7, t8, vt⟩, a2, c2, by omega, by go_num, HJ.out, by simp only [HNT.out]; exact C_w10.out, by simp only [HNT.out]; exact R_w10.out, X_w10.out⟩
            case measure => simp [intOf] <;> omega
          · have d2 : (m6 == s4) = false := by simpa using hq
            clear hq h9
            go_upto_region 15 with fail
            have B9 := B5
            have R9 := RT5
            have HX9 := Lib.hid (HX.out.trans E5)
            obtain ⟨w9, hw9⟩ : ∃ w9, w9 = w5 := ⟨_, rfl⟩
            subst hw9
            go_upto_region 6 with fail
            change Code.wp _ _ _ _ (put w9 B 0 [.int .i64 t1, .int .i64 t2, .bool t3, .int .i64 t4, .int .i64 t5, .int .i64 t6, .int .i64 t7, .bool t8, .slice a2 nt c2])
            have C_w10 := Lib.hid (put_all (vs := [.int .i64 t1, .int .i64 t2, .bool t3, .int .i64 t4, .int .i64 t5, .int .i64 t6, .int .i64 t7, .bool t8, .slice a2 nt c2]) B9.out rfl)
            have X_w10 := Lib.hid (put_ext (a := w) HB.out [.int .i64 t1, .int .i64 t2, .bool t3, .int .i64 t4, .int .i64 t5, .int .i64 t6, .int .i64 t7, .bool t8, .slice a2 nt c2] 0 _ HX9.out)
            have R_w10 := Lib.hid ((R9.out).agree (agree_put (V := (· = B)) rfl [.int .i64 t1, .int .i64 t2, .bool t3, .int .i64 t4, .int .i64 t5, .int .i64 t6, .int .i64 t7, .bool t8, .slice a2 nt c2] 0 w9))
            generalize put w9 B 0 [.int .i64 t1, .int .i64 t2, .bool t3, .int .i64 t4, .int .i64 t5, .int .i64 t6, .int .i64 t7, .bool t8, .slice a2 nt c2] = w10 at *
            clear q0 f0 q1
            go_wp2_with fail
            go_roundw
            case rel => exact ⟨k + 1, ⟨t1, t2, t3, t4, t5, t6, t7, t8, vt⟩, a2, c2, by omega, by go_num, HJ.out, by simp only [HNT.out]; exact C_w10.out, by simp only [HNT.out]; exact R_w10.out, X_w10.out⟩
            case measure => simp [intOf] <;> omega
        · obtain ⟨h9, h8⟩ := HOLD.out rfl
          simp only [SSt.mk.injEq] at h9
          obtain ⟨rfl, rfl, rfl, rfl, rfl, rfl, rfl, rfl, rfl⟩ := h9
          have d1 : decide (t4 < m6) = false := by simp only [decide_eq_false_iff_not]; omega
          clear h8
          go_upto_region 15 with ((go_at_call 28; (with_reducible refine (HSA.out _ _ _ RS5.out RTA.out).mono ?_); rintro e w9 ⟨rfl, x9⟩; have qa := (B5.out.ext x9).cell; have qb := (M5.out.ext x9).cell))
          have B9 := Lib.hid (B5.out.ext x9)
          have T9 := Lib.hid (T5.out.ext x9)
          have R9 := Lib.hid (RT5.out.ext x9)
          have HX9 := Lib.hid ((HX.out.trans E5).trans x9)
          clear q0 f0 q1 q2 qa qb
          have q0 := B9.out.cell
          have f0 := B9.out.frozen
          have q1 := T9.out.cell
          go_upto_region 6 with fail
          change Code.wp _ _ _ _ (put w9 B 0 [.int .i64 t1, .int .i64 t2, .bool t3, .int .i64 t4, .int .i64 t5, .int .i64 t6, .int .i64 t7, .bool t8, .slice a2 nt c2])
          have C_w10 := Lib.hid (put_all (vs := [.int .i64 t1, .int .i64 t2, .bool t3, .int .i64 t4, .int .i64 t5, .int .i64 t6, .int .i64 t7, .bool t8, .slice a2 nt c2]) B9.out rfl)
          have X_w10 := Lib.hid (put_ext (a := w) HB.out [.int .i64 t1, .int .i64 t2, .bool t3, .int .i64 t4, .int .i64 t5, .int .i64 t6, .int .i64 t7, .bool t8, .slice a2 nt c2] 0 _ HX9.out)
          have R_w10 := Lib.hid ((R9.out).agree (agree_put (V := (· = B)) rfl [.int .i64 t1, .int .i64 t2, .bool t3, .int .i64 t4, .int .i64 t5, .int .i64 t6, .int .i64 t7, .bool t8, .slice a2 nt c2] 0 w9))
          generalize put w9 B 0 [.int .i64 t1, .int .i64 t2, .bool t3, .int .i64 t4, .int .i64 t5, .int .i64 t6, .int .i64 t7, .bool t8, .slice a2 nt c2] = w10 at *
          clear q0 f0 q1
          go_wp2_with fail
          go_roundw
          case rel => exact ⟨k + 1, ⟨t1, t2, t3, t4, t5, t6, t7, t8, vt⟩, a2, c2, by omega, by go_num, HJ.out, by simp only [HNT.out]; exact C_w10.out, by simp only [HNT.out]; exact R_w10.out, X_w10.out⟩
          case measure => simp [intOf] <;> omega
        · go_upto_region 15 with fail
          have B9 := B5
          have R9 := RT5
          have HX9 := Lib.hid (HX.out.trans E5)
          obtain ⟨w9, hw9⟩ : ∃ w9, w9 = w5 := ⟨_, rfl⟩
          subst hw9
          go_upto_region 6 with fail
          change Code.wp _ _ _ _ (put w9 B 0 [.int .i64 t1, .int .i64 t2, .bool t3, .int .i64 t4, .int .i64 t5, .int .i64 t6, .int .i64 t7, .bool t8, .slice a2 nt c2])
          have C_w10 := Lib.hid (put_all (vs := [.int .i64 t1, .int .i64 t2, .bool t3, .int .i64 t4, .int .i64 t5, .int .i64 t6, .int .i64 t7, .bool t8, .slice a2 nt c2]) B9.out rfl)
          have X_w10 := Lib.hid (put_ext (a := w) HB.out [.int .i64 t1, .int .i64 t2, .bool t3, .int .i64 t4, .int .i64 t5, .int .i64 t6, .int .i64 t7, .bool t8, .slice a2 nt c2] 0 _ HX9.out)
          have R_w10 := Lib.hid ((R9.out).agree (agree_put (V := (· = B)) rfl [.int .i64 t1, .int .i64 t2, .bool t3, .int .i64 t4, .int .i64 t5, .int .i64 t6, .int .i64 t7, .bool t8, .slice a2 nt c2] 0 w9))
          generalize put w9 B 0 [.int .i64 t1, .int .i64 t2, .bool t3, .int .i64 t4, .int .i64 t5, .int .i64 t6, .int .i64 t7, .bool t8, .slice a2 nt c2] = w10 at *
          clear q0 f0 q1
          go_wp2_with fail
          go_roundw
          case rel => exact ⟨k + 1, ⟨t1, t2, t3, t4, t5, t6, t7, t8, vt⟩, a2, c2, by omega, by go_num, HJ.out, by simp only [HNT.out]; exact C_w10.out, by simp only [HNT.out]; exact R_w10.out, X_w10.out⟩
          case measure => simp [intOf] <;> omega
      · have HT := Lib.hid (fun w1 (he : Ext wr w1) => tick_any s _ w1 (hR.ext he) hvl (by have := hJ.l1; omega))
        have HJ := Lib.hid (rel_tick hJ)
        rw [htk] at i5
        clear hR hx hJ hvl i0 i1 i2 i3 i4
        generalize tickS s = t at *
        obtain ⟨s1, s2, s3, s4, s5, s6, s7, s8, vs⟩ := s
        obtain ⟨t1, t2, t3, t4, t5, t6, t7, t8, vt⟩ := t
        simp only at *
        generalize vs.length = n at *
        generalize hnt : vt.length = nt at *
        have HNT := Lib.hid hnt
        clear hnt
        have HBA : Hid (∀ w', Ext wr w' → Bk w' B 50 #[.int .i64 s1, .int .i64 s2, .bool s3, .int .i64 s4, .int .i64 s5, .int .i64 s6, .int .i64 s7, .bool s8, .slice a0 n c0]) := fun w' he => hBk.ext he
        have q0 : ∀ j, wr.cell? ⟨B, j, none⟩ = (#[.int .i64 s1, .int .i64 s2, .bool s3, .int .i64 s4, .int .i64 s5, .int .i64 s6, .int .i64 s7, .bool s8, .slice a0 n c0] : Array Value)[j]? := hBk.cell
        clear hBk
        go_wp2_with fail
        refine (HT.out _ (Ext.refl wr)).mono ?_
        rintro e w2 ⟨a2, c2, he, x2, r2⟩
        simp only [HNT.out] at he r2
        subst he
        have BB := Lib.hid (HBA.out _ x2)
        clear q0
        have q0 := BB.out.cell
        have f0 := BB.out.frozen
        go_upto_region 6 with fail
        change Code.wp _ _ _ _ (put w2 B 0 [.int .i64 t1, .int .i64 t2, .bool t3, .int .i64 t4, .int .i64 t5, .int .i64 t6, .int .i64 t7, .bool t8, .slice a2 nt c2])
        have C_w3 := Lib.hid (put_all (vs := [.int .i64 t1, .int .i64 t2, .bool t3, .int .i64 t4, .int .i64 t5, .int .i64 t6, .int .i64 t7, .bool t8, .slice a2 nt c2]) BB.out rfl)
        have X_w3 := Lib.hid (put_ext (a := w) HB.out [.int .i64 t1, .int .i64 t2, .bool t3, .int .i64 t4, .int .i64 t5, .int .i64 t6, .int .i64 t7, .bool t8, .slice a2 nt c2] 0 _ (HX.out.trans x2))
        have R_w3 := Lib.hid ((r2.weak (by omega) (V' := (· = B)) (fun g _ hg => by rw [hg]; exact lB0)).agree (agree_put (V := (· = B)) rfl [.int .i64 t1, .int .i64 t2, .bool t3, .int .i64 t4, .int .i64 t5, .int .i64 t6, .int .i64 t7, .bool t8, .slice a2 nt c2] 0 w2))
        generalize put w2 B 0 [.int .i64 t1, .int .i64 t2, .bool t3, .int .i64 t4, .int .i64 t5, .int .i64 t6, .int .i64 t7, .bool t8, .slice a2 nt c2] = w3 at *
        clear q0 f0
        go_wp2_with fail
        go_roundw
        case rel => exact ⟨k + 1, ⟨t1, t2, t3, t4, t5, t6, t7, t8, vt⟩, a2, c2, by omega, by go_num, HJ.out, by simp only [HNT.out]; exact C_w3.out, by simp only [HNT.out]; exact R_w3.out, X_w3.out⟩
        case measure => simp [intOf] <;> omega
    · have hend : ¬ ((k : Int) < ln) ∨ (((k : Int) < ln) ∧ ¬ ((k : Int) < 200)) := by omega
      clear hlt
      rcases hend with hd | ⟨hd, hd'⟩
      all_goals
        go_wp2_with fail
        go_ret
        exact ⟨rfl, hx⟩
end Go.Proofs.Ytopmhaebjpmbfaa
