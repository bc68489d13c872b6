/- The walk of the statement SubscriberDoubles. -/
import Derived.Test.YtopmhaebjpmbfaaSubN
import Derived.Test.YtopmhaebjpmbfaaSubK
import Derived.Test.YtopmhaebjpmbfaaSubL
import Derived.RegionTactic
import Derived.BigRegion
namespace Go.Proofs.Ytopmhaebjpmbfaa
open Go.RowKit
attribute [local go_sem ↓] Go.wp_at_zero Go.wp_at_succ

/-- A message taken again at once is old. -/
theorem take_twice {s : SSt} (h : Srel s) (x : Evt) : takeS (takeS s (evM x)).1 (evM x) = ((takeS s (evM x)).1, 4) := by
  obtain ⟨e0, e1, e2, e3, e4, e5, e6, e7⟩ := evM_ok x
  have hp := h.pub
  have hr := h.rev
  have ep : (evM x).pub = 3 := rfl
  have er : (evM x).rev = 4 := rfl
  generalize evM x = m at *
  have hacc : ∀ k, takeS (accS s m k) m = (accS s m k, 4) := fun k => by
    have d1 := dist_small (a := m.seq) (b := m.seq) (by omega) (by omega) (by omega) (by omega)
    have d2 : newB m.seq m.seq = false := by
      cases hb : newB m.seq m.seq
      · rfl
      · have := d1.1.1 hb; omega
    unfold takeS
    rw [if_neg (by show ¬ (chkM m ≠ 0 ∨ m.pub ≠ s.pub ∨ m.rev ≠ s.rev); rw [e0, ep, er, hp, hr]; simp)]
    rw [if_neg (by show ¬ (true = false); simp), if_neg (by show ¬ m.ttl < 1; omega), if_pos (show m.state = (accS s m k).state from rfl), if_neg (by show ¬ (newB m.seq m.seq = true ∧ _); rw [d2]; simp)]
  have hk : (takeS s m).1 = s ∧ (takeS s m).2 = 4 ∨ ∃ k, (takeS s m).1 = accS s m k := by
    unfold takeS
    rw [if_neg (by rw [e0, ep, er, hp, hr]; simp)]
    split
    · exact .inr ⟨_, rfl⟩
    · split
      · exact .inr ⟨_, rfl⟩
      · split
        · split
          · exact .inr ⟨_, rfl⟩
          · exact .inl ⟨rfl, rfl⟩
        · split
          · exact .inr ⟨_, rfl⟩
          · exact .inl ⟨rfl, rfl⟩
  rcases hk with ⟨h1, h2⟩ | ⟨k, h1⟩
  · rw [h1]
    exact Prod.ext h1 h2
  · rw [h1]
    exact hacc k

set_option maxRecDepth 100000 in
set_option maxHeartbeats 16000000 in
theorem doubles_walk (l : List Evt) (v : Value) (y : Evt) (w : World) (hl : RF Any 6 evtE w v l) : Calls Try.prog 10 #[v, evtA y] w fun e w' => e = .returned (.bool true) ∧ Ext w w' := by
  have HK := Lib.hid (fun w1 => known14_any w1)
  have HN := Lib.hid (fun w1 => newSub_any 3 4 w1)
  simp only [newSub] at HN
  have HIN := Lib.hid (fun w1 (he : Ext w w1) => hl.ext he)
  obtain ⟨ia, ic, rfl, hi1, hi2⟩ := hl.form
  unfold maxLen at hi2
  clear hl
  generalize hln : l.length = ln at *
  have HLN := Lib.hid hln
  clear hln
  go_enter Try.func10, Try.ntmps10
  go_wp2_with fail
  have XA : Hid (Ext w (w.alloc (.cells #[.int .i64 y.state, .int .i64 y.seq, .int .i64 y.ttl, .bool y.val, .bool y.test, .bool y.tick] 70))) := (Ext.refl w).alloc _
  have HE0 : Hid (∀ w', Ext (w.alloc (.cells #[.int .i64 y.state, .int .i64 y.seq, .int .i64 y.ttl, .bool y.val, .bool y.test, .bool y.tick] 70)) w' → Bk w' w.heap.size 70 #[.int .i64 y.state, .int .i64 y.seq, .int .i64 y.ttl, .bool y.val, .bool y.test, .bool y.tick]) := fun w' he => (Bk.new w _ _ _ rfl).ext he
  have HIN := Lib.hid (fun w1 (he : Ext (w.alloc (.cells #[.int .i64 y.state, .int .i64 y.seq, .int .i64 y.ttl, .bool y.val, .bool y.test, .bool y.tick] 70)) w1) => HIN.out w1 (XA.out.trans he))
  generalize w.alloc (.cells #[.int .i64 y.state, .int .i64 y.seq, .int .i64 y.ttl, .bool y.val, .bool y.test, .bool y.tick] 70) = wa at *
  generalize w.heap.size = EB at *
  refine (HK.out _).mono ?_
  rintro e w1 ⟨rfl, x1⟩
  go_wp2_with fail
  refine (HN.out _).mono ?_
  rintro e w2 ⟨rfl, x2⟩
  have X2 := x1.trans x2
  have HB := Lib.hid X2.size
  go_wp2_with fail
  have B2 := Bk.new w2 #[.int .i64 3, .int .i64 4, .bool false, .int .i64 0, .int .i64 0, .int .i64 0, .int .i64 0, .bool false, .slice none 0 0] 50 w2.heap.size rfl
  have X3 := X2.alloc (.cells #[.int .i64 3, .int .i64 4, .bool false, .int .i64 0, .int .i64 0, .int .i64 0, .int .i64 0, .bool false, .slice none 0 0] 50)
  generalize w2.alloc (.cells #[.int .i64 3, .int .i64 4, .bool false, .int .i64 0, .int .i64 0, .int .i64 0, .int .i64 0, .bool false, .slice none 0 0] 50) = W at *
  generalize w2.heap.size = B at *
  clear X2 x1 x2 HK HN
  go_loopw [6] (fun i wr => ∃ (k : Nat) (s : SSt) (a : Option Addr) (c : Nat), (k ≤ ln ∧ k ≤ 100) ∧ i = .int .i64 k ∧ Srel s ∧ Bk wr B 50 (subC s (.slice a s.vals.length c)) ∧ RF (· = B) 6 valE wr (.slice a s.vals.length c) s.vals ∧ Ext wa wr) (fun i _ => 101 - (intOf i).toNat)
  case atStart => exact ⟨0, newSub 3 4, none, 0, by omega, rfl, rel_new, B2, RF.nil _ _ _ _, X3⟩
  case round =>
    obtain ⟨k, s, a0, c0, ⟨hk, hk2⟩, rfl, hJ, hBk, hR, hx⟩ := hrel
    clear B2 X3
    by_cases hlt : k < ln ∧ k < 100
    · obtain ⟨hlt1, hlt2⟩ := hlt
      obtain ⟨x, hxk⟩ : ∃ x, l[k]? = some x := ⟨_, List.getElem?_eq_getElem (by rw [HLN.out]; exact hlt1)⟩
      obtain ⟨ib, io, ic', hv1, i0, i1, i2, i3, i4, i5⟩ := evt_get (HIN.out wr hx) hxk
      rw [HLN.out] at hv1
      simp only [Value.slice.injEq] at hv1
      obtain ⟨rfl, -, rfl⟩ := hv1
      clear hxk
      have hki : (k : Int) < ln := by omega
      have hki2 : (k : Int) < 100 := by omega
      have HX := Lib.hid hx
      have hvl : s.vals.length ≤ 1000000000 := by have := hJ.vl; omega
      have lB0 := hBk.lt
      cases htk : x.tick
      · have HE := Lib.hid (fun w1 => evMsg_any x w1)
        have HTk := Lib.hid (fun w1 v u h1 h2 => take_any s (evM x) v u w1 h1 h2 hvl (by have := hJ.o0; have := hJ.o1; omega))
        have hJ2 := (rel_take hJ x).1
        have HRA := Lib.hid (fun w' (he : Ext wr w') => (hR.ext he).weak (by omega) (V' := Any) (fun _ _ h => h.elim))
        rw [htk] at i5
        clear hR hx hJ hvl
        have HJ := Lib.hid hJ2
        clear hJ2
        obtain ⟨z, hz⟩ : ∃ z, takeS s (evM x) = z := ⟨_, rfl⟩
        rw [hz] at HTk HJ
        clear hz
        obtain ⟨t, kk⟩ := z
        generalize evM x = m at *
        obtain ⟨e1, e2, e3, e4, e5, e6⟩ := x
        obtain ⟨s1, s2, s3, s4, s5, s6, s7, s8, vs⟩ := s
        obtain ⟨t1, t2, t3, t4, t5, t6, t7, t8, vt⟩ := t
        obtain ⟨m1, m2, m3, m4, m5, m6, m7, m8, m9, vm⟩ := m
        simp only at *
        subst htk
        generalize hn : vs.length = n at *
        have HNS := Lib.hid hn
        generalize hnt : vt.length = nt at *
        have HNT := Lib.hid hnt
        generalize hnm : vm.length = nm at *
        have HNM := Lib.hid hnm
        clear hnt hnm hn
        have HBA : Hid (∀ w', Ext wr w' → Bk w' B 50 #[.int .i64 s1, .int .i64 s2, .bool s3, .int .i64 s4, .int .i64 s5, .int .i64 s6, .int .i64 s7, .bool s8, .slice a0 n c0]) := fun w' he => hBk.ext he
        have q0 : ∀ j, wr.cell? ⟨B, j, none⟩ = (#[.int .i64 s1, .int .i64 s2, .bool s3, .int .i64 s4, .int .i64 s5, .int .i64 s6, .int .i64 s7, .bool s8, .slice a0 n c0] : Array Value)[j]? := hBk.cell
        clear hBk
        go_upto_region 9 with fail
        go_region_with (first
          | (go_at_call 35; (with_reducible refine (HE.out _).mono ?_); rintro e w2 ⟨a1, c1, he, x2, r2⟩; simp only [HNM.out] at he r2; subst he; have E2 : Ext wr w2 := (Ext.refl wr).drew.trans x2; have qa := (HBA.out _ E2).cell; have RM2 := Lib.hid (r2.weak (by omega) (V' := Any) (fun _ _ h => h.elim)); clear r2 x2)
          | (go_at_call 25; (with_reducible refine (HTk.out _ _ _ (HRA.out _ E2) RM2.out).mono ?_); rintro e w4 ⟨a2, c2, he, x4, r4⟩; simp only [HNT.out] at he r4; subst he; have B4 := Lib.hid (HBA.out _ (E2.trans x4)); have qb := B4.out.cell; have fb := B4.out.frozen; have R4 := Lib.hid (r4.weak (by omega) (V' := (· = B)) (fun g _ hg => by rw [hg]; exact E2.lt lB0)); have X4 := Lib.hid (HX.out.trans (E2.trans x4)); clear r4 x4))
        all_goals
          clear qa qb fb q0
          change Exit.inBlock _ _ _ _ (put w4 B 0 [.int .i64 t1, .int .i64 t2, .bool t3, .int .i64 t4, .int .i64 t5, .int .i64 t6, .int .i64 t7, .bool t8, .slice a2 nt c2])
          have C_w10 := Lib.hid (put_all (vs := [.int .i64 t1, .int .i64 t2, .bool t3, .int .i64 t4, .int .i64 t5, .int .i64 t6, .int .i64 t7, .bool t8, .slice a2 nt c2]) B4.out rfl)
          have X_w10 := Lib.hid (put_ext (a := wa) HB.out [.int .i64 t1, .int .i64 t2, .bool t3, .int .i64 t4, .int .i64 t5, .int .i64 t6, .int .i64 t7, .bool t8, .slice a2 nt c2] 0 _ X4.out)
          have R_w10 := Lib.hid ((R4.out).agree (agree_put (V := (· = B)) rfl [.int .i64 t1, .int .i64 t2, .bool t3, .int .i64 t4, .int .i64 t5, .int .i64 t6, .int .i64 t7, .bool t8, .slice a2 nt c2] 0 w4))
          generalize put w4 B 0 [.int .i64 t1, .int .i64 t2, .bool t3, .int .i64 t4, .int .i64 t5, .int .i64 t6, .int .i64 t7, .bool t8, .slice a2 nt c2] = w10 at *
          go_wp2_with fail
          go_roundw
          case rel => exact ⟨k + 1, ⟨t1, t2, t3, t4, t5, t6, t7, t8, vt⟩, a2, c2, by omega, by go_num, HJ.out, by simp only [HNT.out]; exact C_w10.out, by simp only [HNT.out]; exact R_w10.out, X_w10.out⟩
          case measure => simp [intOf] <;> omega
      · have HT := Lib.hid (fun w1 (he : Ext wr w1) => tick_any s _ w1 (hR.ext he) hvl (by have := hJ.l1; omega))
        have HJ := Lib.hid (rel_tick hJ)
        rw [htk] at i5
        clear hR hx hJ hvl i0 i1 i2 i3 i4
        generalize tickS s = t at *
        obtain ⟨s1, s2, s3, s4, s5, s6, s7, s8, vs⟩ := s
        obtain ⟨t1, t2, t3, t4, t5, t6, t7, t8, vt⟩ := t
        simp only at *
        generalize vs.length = n at *
        generalize hnt : vt.length = nt at *
        have HNT := Lib.hid hnt
        clear hnt
        have HBA : Hid (∀ w', Ext wr w' → Bk w' B 50 #[.int .i64 s1, .int .i64 s2, .bool s3, .int .i64 s4, .int .i64 s5, .int .i64 s6, .int .i64 s7, .bool s8, .slice a0 n c0]) := fun w' he => hBk.ext he
        have q0 : ∀ j, wr.cell? ⟨B, j, none⟩ = (#[.int .i64 s1, .int .i64 s2, .bool s3, .int .i64 s4, .int .i64 s5, .int .i64 s6, .int .i64 s7, .bool s8, .slice a0 n c0] : Array Value)[j]? := hBk.cell
        clear hBk
        go_wp2_with fail
        refine (HT.out _ (Ext.refl wr)).mono ?_
        rintro e w2 ⟨a2, c2, he, x2, r2⟩
        simp only [HNT.out] at he r2
        subst he
        have BB := Lib.hid (HBA.out _ x2)
        clear q0
        have q0 := BB.out.cell
        have f0 := BB.out.frozen
        go_upto_region 6 with fail
        change Code.wp _ _ _ _ (put w2 B 0 [.int .i64 t1, .int .i64 t2, .bool t3, .int .i64 t4, .int .i64 t5, .int .i64 t6, .int .i64 t7, .bool t8, .slice a2 nt c2])
        have C_w3 := Lib.hid (put_all (vs := [.int .i64 t1, .int .i64 t2, .bool t3, .int .i64 t4, .int .i64 t5, .int .i64 t6, .int .i64 t7, .bool t8, .slice a2 nt c2]) BB.out rfl)
        have X_w3 := Lib.hid (put_ext (a := wa) HB.out [.int .i64 t1, .int .i64 t2, .bool t3, .int .i64 t4, .int .i64 t5, .int .i64 t6, .int .i64 t7, .bool t8, .slice a2 nt c2] 0 _ (HX.out.trans x2))
        have R_w3 := Lib.hid ((r2.weak (by omega) (V' := (· = B)) (fun g _ hg => by rw [hg]; exact lB0)).agree (agree_put (V := (· = B)) rfl [.int .i64 t1, .int .i64 t2, .bool t3, .int .i64 t4, .int .i64 t5, .int .i64 t6, .int .i64 t7, .bool t8, .slice a2 nt c2] 0 w2))
        generalize put w2 B 0 [.int .i64 t1, .int .i64 t2, .bool t3, .int .i64 t4, .int .i64 t5, .int .i64 t6, .int .i64 t7, .bool t8, .slice a2 nt c2] = w3 at *
        clear q0 f0
        go_wp2_with fail
        go_roundw
        case rel => exact ⟨k + 1, ⟨t1, t2, t3, t4, t5, t6, t7, t8, vt⟩, a2, c2, by omega, by go_num, HJ.out, by simp only [HNT.out]; exact C_w3.out, by simp only [HNT.out]; exact R_w3.out, X_w3.out⟩
        case measure => simp [intOf] <;> omega
    · have hend : ¬ ((k : Int) < ln) ∨ (((k : Int) < ln) ∧ ¬ ((k : Int) < 100)) := by omega
      clear hlt
      rcases hend with hd | ⟨hd, hd'⟩
      all_goals
        have hvl : s.vals.length ≤ 1000000000 := by have := hJ.vl; omega
        have HE := Lib.hid (fun w1 => evMsg_any y w1)
        have HT1 := Lib.hid (fun w1 v u h1 h2 => take_any s (evM y) v u w1 h1 h2 hvl (by have := hJ.o0; have := hJ.o1; omega))
        have hJ2 := (rel_take hJ y).1
        have HT2 := Lib.hid (fun w1 v u h1 h2 => take_any (takeS s (evM y)).1 (evM y) v u w1 h1 h2 (by have := hJ2.vl; omega) (by have := hJ2.o0; have := hJ2.o1; omega))
        rw [take_twice hJ y] at HT2
        have HSA := Lib.hid (fun v v' w1 h1 h2 => sameSub_eq (takeS s (evM y)).1 v v' w1 h1 h2)
        obtain ⟨z, hz⟩ : ∃ z, takeS s (evM y) = z := ⟨_, rfl⟩
        rw [hz] at HT1 HT2 HSA
        clear hz hJ2
        obtain ⟨t, kk⟩ := z
        generalize evM y = m at *
        have HX := Lib.hid hx
        have lB0 := hBk.lt
        have lE0 := (HE0.out _ hx).lt
        have HRA := Lib.hid (fun w' (he : Ext wr w') => (hR.ext he).weak (by omega) (V' := Any) (fun _ _ h => h.elim))
        clear hR hJ hvl
        obtain ⟨e1, e2, e3, e4, e5, e6⟩ := y
        obtain ⟨s1, s2, s3, s4, s5, s6, s7, s8, vs⟩ := s
        obtain ⟨t1, t2, t3, t4, t5, t6, t7, t8, vt⟩ := t
        obtain ⟨m1, m2, m3, m4, m5, m6, m7, m8, m9, vm⟩ := m
        simp only at *
        generalize hn : vs.length = n at *
        have HNS := Lib.hid hn
        generalize hnt : vt.length = nt at *
        have HNT := Lib.hid hnt
        generalize hnm : vm.length = nm at *
        have HNM := Lib.hid hnm
        clear hnt hnm hn
        have HBA : Hid (∀ w', Ext wr w' → Bk w' B 50 #[.int .i64 s1, .int .i64 s2, .bool s3, .int .i64 s4, .int .i64 s5, .int .i64 s6, .int .i64 s7, .bool s8, .slice a0 n c0]) := fun w' he => hBk.ext he
        have HBC := Lib.hid (fun w' (he : Ext wr w') => And.intro (HBA.out w' he).cell ((HE0.out _ (hx.trans he)).cell))
        have q0 : ∀ j, wr.cell? ⟨B, j, none⟩ = (#[.int .i64 s1, .int .i64 s2, .bool s3, .int .i64 s4, .int .i64 s5, .int .i64 s6, .int .i64 s7, .bool s8, .slice a0 n c0] : Array Value)[j]? := hBk.cell
        have qe : ∀ j, wr.cell? ⟨EB, j, none⟩ = (#[.int .i64 e1, .int .i64 e2, .int .i64 e3, .bool e4, .bool e5, .bool e6] : Array Value)[j]? := (HE0.out _ hx).cell
        clear hBk hx
        go_upto_region 10 with fail
        go_cut [7] (fun t wx => ∃ (nb : Nat) (a5 : Option Addr) (c5 : Nat), t = .pointer (some ⟨nb, 0, none⟩) ∧ AftS wr wx B nb #[.int .i64 s1, .int .i64 s2, .bool s3, .int .i64 s4, .int .i64 s5, .int .i64 s6, .int .i64 s7, .bool s8, .slice a0 n c0] ⟨t1, t2, t3, t4, t5, t6, t7, t8, vt⟩ a5 c5)
        case first =>
          go_region_held3 (fun w' => (∀ j, w'.cell? ⟨B, j, none⟩ = (#[.int .i64 s1, .int .i64 s2, .bool s3, .int .i64 s4, .int .i64 s5, .int .i64 s6, .int .i64 s7, .bool s8, .slice a0 n c0] : Array Value)[j]?) ∧ (∀ j, w'.cell? ⟨EB, j, none⟩ = (#[.int .i64 e1, .int .i64 e2, .int .i64 e3, .bool e4, .bool e5, .bool e6] : Array Value)[j]?))
            (first | (with_reducible exact ⟨q0, qe⟩) | (exact HBC.out _ (by first | (with_reducible exact (Ext.refl wr).drew) | (with_reducible exact ((Ext.refl wr).alloc _).drew) | (with_reducible exact (Ext.refl wr).drew.alloc _) | (with_reducible exact E4) | (with_reducible exact E4.alloc _) | (with_reducible exact E5) | (with_reducible exact E5.alloc _) | (with_reducible exact (Ext.refl wr)))) | (refine ⟨fun j => ?_, fun j => ?_⟩ <;> (repeat rw [World.cell?_setCell_other _ _ _ _ (by first | (simp; done) | (simp; omega))]) <;> first | (with_reducible exact (HBC.out _ E5).1 j) | (with_reducible exact (HBC.out _ E5).2 j)) | fail)
            (first
              | (go_at_call 35; (with_reducible refine (HE.out _).mono ?_); rintro e w4 ⟨a4, c4, he, x4, r4⟩; simp only [HNM.out] at he r4; subst he; have E4 : Ext wr w4 := Ext.trans (by first | (with_reducible exact (Ext.refl wr).drew) | (with_reducible exact ((Ext.refl wr).alloc _).drew) | (with_reducible exact (Ext.refl wr).drew.alloc _)) x4; have lB4 : B < w4.heap.size := E4.lt lB0; have lE4 : EB < w4.heap.size := E4.lt lE0; (first | (with_reducible have T4 := Lib.hid ((Bk.new wr #[.int .i64 0, .int .i64 0, .bool false, .int .i64 0, .int .i64 0, .int .i64 0, .int .i64 0, .bool false, .slice none 0 0] 50 wr.heap.size rfl).drew.ext x4)) | (with_reducible have T4 := Lib.hid ((Bk.new wr.drew #[.int .i64 0, .int .i64 0, .bool false, .int .i64 0, .int .i64 0, .int .i64 0, .int .i64 0, .bool false, .slice none 0 0] 50 wr.heap.size rfl).ext x4)) | (have T4 := Lib.hid True.intro)); have Ha4 := Lib.hid (fun w' (he : Ext w4 w') => (r4.ext he).weak (by omega) (V' := Any) (fun _ _ h => h.elim)); clear r4)
              | (go_at_call 25; (with_reducible refine (HT1.out _ _ _ (HRA.out _ (by first | (with_reducible exact E4) | (with_reducible exact E4.alloc _))) (Ha4.out _ (by first | (with_reducible exact Ext.refl w4) | (with_reducible exact (Ext.refl w4).alloc _)))).mono ?_); rintro e w5 ⟨a5, c5, he, x5, r5⟩; simp only [HNT.out] at he; subst he; have E5 : Ext wr w5 := Ext.trans (by first | (with_reducible exact E4) | (with_reducible exact E4.alloc _)) x5; (first | (with_reducible have T5 := Lib.hid ((Bk.new w4 #[.int .i64 0, .int .i64 0, .bool false, .int .i64 0, .int .i64 0, .int .i64 0, .int .i64 0, .bool false, .slice none 0 0] 50 w4.heap.size rfl).ext x5)) | (with_reducible have T5 := Lib.hid (T4.out.ext x5)) | (have T5 := Lib.hid True.intro)); (try have tc5 := T5.out.cell); (try have tf5 := T5.out.frozen))
              | fail)
          all_goals
            first
              | (with_reducible have hA0 := aftS_put (n := ⟨t1, t2, t3, t4, t5, t6, t7, t8, vt⟩) (E4.alloc (.cells #[.int .i64 0, .int .i64 0, .bool false, .int .i64 0, .int .i64 0, .int .i64 0, .int .i64 0, .bool false, .slice none 0 0] 50)) x5 (HBA.out _ (E4.alloc _)) (Bk.new w4 #[.int .i64 0, .int .i64 0, .bool false, .int .i64 0, .int .i64 0, .int .i64 0, .int .i64 0, .bool false, .slice none 0 0] 50 w4.heap.size rfl) rfl (by omega) (E4.size) r5
                 have hA : AftS wr (put w5 w4.heap.size 0 [.int .i64 t1, .int .i64 t2, .bool t3, .int .i64 t4, .int .i64 t5, .int .i64 t6, .int .i64 t7, .bool t8, .slice a5 nt c5]) B w4.heap.size #[.int .i64 s1, .int .i64 s2, .bool s3, .int .i64 s4, .int .i64 s5, .int .i64 s6, .int .i64 s7, .bool s8, .slice a0 n c0] ⟨t1, t2, t3, t4, t5, t6, t7, t8, vt⟩ a5 c5 := by simpa only [HNT.out] using hA0
                 clear hA0
                 change Exit.then _ _ _ _ (put w5 w4.heap.size 0 [.int .i64 t1, .int .i64 t2, .bool t3, .int .i64 t4, .int .i64 t5, .int .i64 t6, .int .i64 t7, .bool t8, .slice a5 nt c5])
                 generalize put w5 w4.heap.size 0 [.int .i64 t1, .int .i64 t2, .bool t3, .int .i64 t4, .int .i64 t5, .int .i64 t6, .int .i64 t7, .bool t8, .slice a5 nt c5] = w6 at *
                 have HA := Lib.hid hA
                 clear hA
                 go_wp2_with fail
                 go_meet
                 exact ⟨w4.heap.size, a5, c5, rfl, HA.out⟩)
              | (with_reducible have hA0 := aftS_put (n := ⟨t1, t2, t3, t4, t5, t6, t7, t8, vt⟩) (E4) x5 (HBA.out _ E4) ((show Bk w4 wr.heap.size 50 #[.int .i64 0, .int .i64 0, .bool false, .int .i64 0, .int .i64 0, .int .i64 0, .int .i64 0, .bool false, .slice none 0 0] from T4.out)) rfl (by omega) (Nat.le_refl _) r5
                 have hA : AftS wr (put w5 wr.heap.size 0 [.int .i64 t1, .int .i64 t2, .bool t3, .int .i64 t4, .int .i64 t5, .int .i64 t6, .int .i64 t7, .bool t8, .slice a5 nt c5]) B wr.heap.size #[.int .i64 s1, .int .i64 s2, .bool s3, .int .i64 s4, .int .i64 s5, .int .i64 s6, .int .i64 s7, .bool s8, .slice a0 n c0] ⟨t1, t2, t3, t4, t5, t6, t7, t8, vt⟩ a5 c5 := by simpa only [HNT.out] using hA0
                 clear hA0
                 change Exit.then _ _ _ _ (put w5 wr.heap.size 0 [.int .i64 t1, .int .i64 t2, .bool t3, .int .i64 t4, .int .i64 t5, .int .i64 t6, .int .i64 t7, .bool t8, .slice a5 nt c5])
                 generalize put w5 wr.heap.size 0 [.int .i64 t1, .int .i64 t2, .bool t3, .int .i64 t4, .int .i64 t5, .int .i64 t6, .int .i64 t7, .bool t8, .slice a5 nt c5] = w6 at *
                 have HA := Lib.hid hA
                 clear hA
                 go_wp2_with fail
                 go_meet
                 exact ⟨wr.heap.size, a5, c5, rfl, HA.out⟩)
              | (have hA0 := aftS_new (n := ⟨t1, t2, t3, t4, t5, t6, t7, t8, vt⟩) E4 x5 (HBA.out _ E4) r5
                 have hA : AftS wr (w5.alloc (.cells #[.int .i64 t1, .int .i64 t2, .bool t3, .int .i64 t4, .int .i64 t5, .int .i64 t6, .int .i64 t7, .bool t8, .slice a5 nt c5] 50)) B w5.heap.size #[.int .i64 s1, .int .i64 s2, .bool s3, .int .i64 s4, .int .i64 s5, .int .i64 s6, .int .i64 s7, .bool s8, .slice a0 n c0] ⟨t1, t2, t3, t4, t5, t6, t7, t8, vt⟩ a5 c5 := by simpa only [HNT.out] using hA0
                 clear hA0
                 generalize w5.alloc (.cells #[.int .i64 t1, .int .i64 t2, .bool t3, .int .i64 t4, .int .i64 t5, .int .i64 t6, .int .i64 t7, .bool t8, .slice a5 nt c5] 50) = w6 at *
                 have HA := Lib.hid hA
                 clear hA
                 go_wp2_with fail
                 go_meet
                 exact ⟨w5.heap.size, a5, c5, rfl, HA.out⟩)
        case rest =>
          obtain ⟨tb, tba, tbc, rfl, hT, hS, hne2, hR5, hx5⟩ := hcut
          simp only [HNT.out] at hT hR5
          clear q0 qe lB0
          have HX7 := Lib.hid (HX.out.trans hx5)
          have lB0 := hT.lt
          have lE0' := hx5.lt lE0
          clear lE0
          have lE0 := lE0'
          have q0 : ∀ j, wc.cell? ⟨tb, j, none⟩ = (#[.int .i64 t1, .int .i64 t2, .bool t3, .int .i64 t4, .int .i64 t5, .int .i64 t6, .int .i64 t7, .bool t8, .slice tba nt tbc] : Array Value)[j]? := hT.cell
          have qe : ∀ j, wc.cell? ⟨EB, j, none⟩ = (#[.int .i64 e1, .int .i64 e2, .int .i64 e3, .bool e4, .bool e5, .bool e6] : Array Value)[j]? := (HE0.out _ HX7.out).cell
          have HBB : Hid (∀ w', Ext wc w' → Bk w' tb 50 #[.int .i64 t1, .int .i64 t2, .bool t3, .int .i64 t4, .int .i64 t5, .int .i64 t6, .int .i64 t7, .bool t8, .slice tba nt tbc]) := fun w' he => hT.ext he
          have HBD := Lib.hid (fun w' (he : Ext wc w') => And.intro (HBB.out w' he).cell ((HE0.out _ (HX7.out.trans he)).cell))
          have HRB := Lib.hid (fun w' (he : Ext wc w') => (hR5.ext he).weak (by omega) (V' := Any) (fun _ _ h => h.elim))
          clear hT hS hR5 hx5 hne2 HT1 HRA HBA HBC HX
          obtain ⟨wt, hwt⟩ : ∃ wt, wt = wc := ⟨_, rfl⟩
          subst hwt
          go_upto_region 11 with fail
          go_cut [9, 10] (fun t kq wx => ∃ (nb : Nat) (a5 : Option Addr) (c5 : Nat), t = .pointer (some ⟨nb, 0, none⟩) ∧ kq = .int .i64 4 ∧ AftS wt wx tb nb #[.int .i64 t1, .int .i64 t2, .bool t3, .int .i64 t4, .int .i64 t5, .int .i64 t6, .int .i64 t7, .bool t8, .slice tba nt tbc] ⟨t1, t2, t3, t4, t5, t6, t7, t8, vt⟩ a5 c5)
          case first =>
            go_region_held3 (fun w' => (∀ j, w'.cell? ⟨tb, j, none⟩ = (#[.int .i64 t1, .int .i64 t2, .bool t3, .int .i64 t4, .int .i64 t5, .int .i64 t6, .int .i64 t7, .bool t8, .slice tba nt tbc] : Array Value)[j]?) ∧ (∀ j, w'.cell? ⟨EB, j, none⟩ = (#[.int .i64 e1, .int .i64 e2, .int .i64 e3, .bool e4, .bool e5, .bool e6] : Array Value)[j]?))
              (first | (with_reducible exact ⟨q0, qe⟩) | (exact HBD.out _ (by first | (with_reducible exact (Ext.refl wt).drew) | (with_reducible exact ((Ext.refl wt).alloc _).drew) | (with_reducible exact (Ext.refl wt).drew.alloc _) | (with_reducible exact E4) | (with_reducible exact E4.alloc _) | (with_reducible exact E5) | (with_reducible exact E5.alloc _) | (with_reducible exact (Ext.refl wt)))) | (refine ⟨fun j => ?_, fun j => ?_⟩ <;> (repeat rw [World.cell?_setCell_other _ _ _ _ (by first | (simp; done) | (simp; omega))]) <;> first | (with_reducible exact (HBD.out _ E5).1 j) | (with_reducible exact (HBD.out _ E5).2 j)) | fail)
              (first
                | (go_at_call 35; (with_reducible refine (HE.out _).mono ?_); rintro e w4 ⟨a4, c4, he, x4, r4⟩; simp only [HNM.out] at he r4; subst he; have E4 : Ext wt w4 := Ext.trans (by first | (with_reducible exact (Ext.refl wt).drew) | (with_reducible exact ((Ext.refl wt).alloc _).drew) | (with_reducible exact (Ext.refl wt).drew.alloc _)) x4; have lB4 : tb < w4.heap.size := E4.lt lB0; have lE4 : EB < w4.heap.size := E4.lt lE0; (first | (with_reducible have T4 := Lib.hid ((Bk.new wt #[.int .i64 0, .int .i64 0, .bool false, .int .i64 0, .int .i64 0, .int .i64 0, .int .i64 0, .bool false, .slice none 0 0] 50 wt.heap.size rfl).drew.ext x4)) | (with_reducible have T4 := Lib.hid ((Bk.new wt.drew #[.int .i64 0, .int .i64 0, .bool false, .int .i64 0, .int .i64 0, .int .i64 0, .int .i64 0, .bool false, .slice none 0 0] 50 wt.heap.size rfl).ext x4)) | (have T4 := Lib.hid True.intro)); have Ha4 := Lib.hid (fun w' (he : Ext w4 w') => (r4.ext he).weak (by omega) (V' := Any) (fun _ _ h => h.elim)); clear r4)
                | (go_at_call 25; (with_reducible refine (HT2.out _ _ _ (HRB.out _ (by first | (with_reducible exact E4) | (with_reducible exact E4.alloc _))) (Ha4.out _ (by first | (with_reducible exact Ext.refl w4) | (with_reducible exact (Ext.refl w4).alloc _)))).mono ?_); rintro e w5 ⟨a5, c5, he, x5, r5⟩; simp only [HNT.out] at he; subst he; have E5 : Ext wt w5 := Ext.trans (by first | (with_reducible exact E4) | (with_reducible exact E4.alloc _)) x5; (first | (with_reducible have T5 := Lib.hid ((Bk.new w4 #[.int .i64 0, .int .i64 0, .bool false, .int .i64 0, .int .i64 0, .int .i64 0, .int .i64 0, .bool false, .slice none 0 0] 50 w4.heap.size rfl).ext x5)) | (with_reducible have T5 := Lib.hid (T4.out.ext x5)) | (have T5 := Lib.hid True.intro)); (try have tc5 := T5.out.cell); (try have tf5 := T5.out.frozen))
                | fail)
            all_goals
              first
                | (with_reducible have hA0 := aftS_put (n := ⟨t1, t2, t3, t4, t5, t6, t7, t8, vt⟩) (E4.alloc (.cells #[.int .i64 0, .int .i64 0, .bool false, .int .i64 0, .int .i64 0, .int .i64 0, .int .i64 0, .bool false, .slice none 0 0] 50)) x5 (HBB.out _ (E4.alloc _)) (Bk.new w4 #[.int .i64 0, .int .i64 0, .bool false, .int .i64 0, .int .i64 0, .int .i64 0, .int .i64 0, .bool false, .slice none 0 0] 50 w4.heap.size rfl) rfl (by omega) (E4.size) r5
                   have hA : AftS wt (put w5 w4.heap.size 0 [.int .i64 t1, .int .i64 t2, .bool t3, .int .i64 t4, .int .i64 t5, .int .i64 t6, .int .i64 t7, .bool t8, .slice a5 nt c5]) tb w4.heap.size #[.int .i64 t1, .int .i64 t2, .bool t3, .int .i64 t4, .int .i64 t5, .int .i64 t6, .int .i64 t7, .bool t8, .slice tba nt tbc] ⟨t1, t2, t3, t4, t5, t6, t7, t8, vt⟩ a5 c5 := by simpa only [HNT.out] using hA0
                   clear hA0
                   change Exit.then _ _ _ _ (put w5 w4.heap.size 0 [.int .i64 t1, .int .i64 t2, .bool t3, .int .i64 t4, .int .i64 t5, .int .i64 t6, .int .i64 t7, .bool t8, .slice a5 nt c5])
                   generalize put w5 w4.heap.size 0 [.int .i64 t1, .int .i64 t2, .bool t3, .int .i64 t4, .int .i64 t5, .int .i64 t6, .int .i64 t7, .bool t8, .slice a5 nt c5] = w6 at *
                   have HA := Lib.hid hA
                   clear hA
                   go_wp2_with fail
                   go_meet
                   exact ⟨w4.heap.size, a5, c5, rfl, rfl, HA.out⟩)
                | (with_reducible have hA0 := aftS_put (n := ⟨t1, t2, t3, t4, t5, t6, t7, t8, vt⟩) (E4) x5 (HBB.out _ E4) ((show Bk w4 wt.heap.size 50 #[.int .i64 0, .int .i64 0, .bool false, .int .i64 0, .int .i64 0, .int .i64 0, .int .i64 0, .bool false, .slice none 0 0] from T4.out)) rfl (by omega) (Nat.le_refl _) r5
                   have hA : AftS wt (put w5 wt.heap.size 0 [.int .i64 t1, .int .i64 t2, .bool t3, .int .i64 t4, .int .i64 t5, .int .i64 t6, .int .i64 t7, .bool t8, .slice a5 nt c5]) tb wt.heap.size #[.int .i64 t1, .int .i64 t2, .bool t3, .int .i64 t4, .int .i64 t5, .int .i64 t6, .int .i64 t7, .bool t8, .slice tba nt tbc] ⟨t1, t2, t3, t4, t5, t6, t7, t8, vt⟩ a5 c5 := by simpa only [HNT.out] using hA0
                   clear hA0
                   change Exit.then _ _ _ _ (put w5 wt.heap.size 0 [.int .i64 t1, .int .i64 t2, .bool t3, .int .i64 t4, .int .i64 t5, .int .i64 t6, .int .i64 t7, .bool t8, .slice a5 nt c5])
                   generalize put w5 wt.heap.size 0 [.int .i64 t1, .int .i64 t2, .bool t3, .int .i64 t4, .int .i64 t5, .int .i64 t6, .int .i64 t7, .bool t8, .slice a5 nt c5] = w6 at *
                   have HA := Lib.hid hA
                   clear hA
                   go_wp2_with fail
                   go_meet
                   exact ⟨wt.heap.size, a5, c5, rfl, rfl, HA.out⟩)
                | (have hA0 := aftS_new (n := ⟨t1, t2, t3, t4, t5, t6, t7, t8, vt⟩) E4 x5 (HBB.out _ E4) r5
                   have hA : AftS wt (w5.alloc (.cells #[.int .i64 t1, .int .i64 t2, .bool t3, .int .i64 t4, .int .i64 t5, .int .i64 t6, .int .i64 t7, .bool t8, .slice a5 nt c5] 50)) tb w5.heap.size #[.int .i64 t1, .int .i64 t2, .bool t3, .int .i64 t4, .int .i64 t5, .int .i64 t6, .int .i64 t7, .bool t8, .slice tba nt tbc] ⟨t1, t2, t3, t4, t5, t6, t7, t8, vt⟩ a5 c5 := by simpa only [HNT.out] using hA0
                   clear hA0
                   generalize w5.alloc (.cells #[.int .i64 t1, .int .i64 t2, .bool t3, .int .i64 t4, .int .i64 t5, .int .i64 t6, .int .i64 t7, .bool t8, .slice a5 nt c5] 50) = w6 at *
                   have HA := Lib.hid hA
                   clear hA
                   go_wp2_with fail
                   go_meet
                   exact ⟨w5.heap.size, a5, c5, rfl, rfl, HA.out⟩)
          case rest =>
            obtain ⟨ub, uba, ubc, rfl, rfl, hT, hS, hne2, hR5, hx5⟩ := hcut
            simp only [HNT.out] at hT hR5
            have B5 := Lib.hid hT
            have q8 := hT.cell
            have q9 := hS.cell
            have RU := Lib.hid (hR5.weak (by omega) (V' := Any) (fun _ _ h => h.elim))
            have RT := Lib.hid (HRB.out _ hx5)
            have XX := Lib.hid ((XA.out.trans HX7.out).trans hx5)
            clear hT hS hR5 hx5
            go_wp2_with fail
            refine (HSA.out _ _ _ RT.out RU.out).mono ?_
            rintro e w9 ⟨rfl, x9⟩
            go_wp2_with fail
            go_ret
            exact ⟨rfl, XX.out.trans x9⟩
end Go.Proofs.Ytopmhaebjpmbfaa
