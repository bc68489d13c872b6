/- The walk of the statement SubscriberPlays. -/
import Derived.Test.YtopmhaebjpmbfaaSubN
import Derived.Test.YtopmhaebjpmbfaaSubK
import Derived.Test.YtopmhaebjpmbfaaSubL
import Derived.Test.YtopmhaebjpmbfaaRefD
import Derived.Test.YtopmhaebjpmbfaaRefE
import Derived.RegionTactic
import Derived.BigRegion
import Derived.Deep.DeepCutAuto
import Derived.Deep.RegionHeld3
namespace Go.Proofs.Ytopmhaebjpmbfaa
open Go.RowKit
attribute [local go_sem ↓] Go.wp_at_zero Go.wp_at_succ

def PV (B XB : Nat) : Nat → Prop := fun g => g = B ∨ g = XB
/-- The two subscribers lie in blocks B and XB, alike. -/
def PlayS (w wx : World) (B XB : Nat) (t : SSt) (a : Option Addr) (c : Nat) (a' : Option Addr) (c' : Nat) : Prop :=
  Bk wx B 50 (subC t (.slice a t.vals.length c)) ∧ Bk wx XB 67 (subC t (.slice a' t.vals.length c')) ∧ RF (PV B XB) 6 valE wx (.slice a t.vals.length c) t.vals ∧ RF (PV B XB) 6 valE wx (.slice a' t.vals.length c') t.vals ∧ Ext w wx
/-- Both variables are stored anew. -/
theorem playS_put {w w5 : World} {B XB : Nat} {S Z : Array Value} {t : SSt} {a : Option Addr} {c : Nat} {a' : Option Addr} {c' : Nat} (hB : w.heap.size ≤ B) (hXB : w.heap.size ≤ XB) (hne : B ≠ XB) (hS : Bk w5 B 50 S) (hs : S.size = 9) (hZ : Bk w5 XB 67 Z) (hz : Z.size = 9) (hE : Ext w w5) (r : RF (PV B XB) 6 valE w5 (.slice a t.vals.length c) t.vals) (r' : RF (PV B XB) 6 valE w5 (.slice a' t.vals.length c') t.vals) :
    PlayS w (put (put w5 B 0 (subC t (.slice a t.vals.length c)).toList) XB 0 (subC t (.slice a' t.vals.length c')).toList) B XB t a c a' c' := by
  have A1 := agree_put (V := PV B XB) (B := B) (.inl rfl) (subC t (.slice a t.vals.length c)).toList 0 w5
  have A2 := agree_put (V := PV B XB) (B := XB) (.inr rfl) (subC t (.slice a' t.vals.length c')).toList 0 (put w5 B 0 (subC t (.slice a t.vals.length c)).toList)
  refine ⟨put_other (Ne.symm hne) _ 0 _ (put_all hS (by rw [hs]; rfl)), put_all (put_other hne _ 0 _ hZ) (by rw [hz]; rfl), (r.agree A1).agree A2, (r'.agree A1).agree A2, put_ext hXB _ 0 _ (put_ext hB _ 0 _ hE)⟩
theorem playS_drew {w wx : World} {B XB : Nat} {t : SSt} {a : Option Addr} {c : Nat} {a' : Option Addr} {c' : Nat} (h : PlayS w wx B XB t a c a' c') : PlayS w wx.drew B XB t a c a' c' :=
  ⟨h.1.drew, h.2.1.drew, h.2.2.1.ext (Ext.refl wx).drew, h.2.2.2.1.ext (Ext.refl wx).drew, h.2.2.2.2.drew⟩
/-- A subscriber lies in the new block tb; its values outside the blocks V. -/
def AftT (V : Nat → Prop) (wr wx : World) (tb : Nat) (T : TypeId) (n : SSt) (a : Option Addr) (c : Nat) : Prop :=
  Bk wx tb T (subC n (.slice a n.vals.length c)) ∧ RF V 6 valE wx (.slice a n.vals.length c) n.vals ∧ wr.heap.size ≤ tb ∧ Ext wr wx
/-- V, and what has come since. -/
def VN (V : Nat → Prop) (wr W : World) : Nat → Prop := fun g => V g ∨ (wr.heap.size ≤ g ∧ g < W.heap.size)
section
variable {V : Nat → Prop} {wr W w5 : World} {tb : Nat} {T : TypeId} {Z : Array Value} {n : SSt} {a : Option Addr} {c : Nat}
theorem aftT_put (hE : Ext wr W) (x5 : Ext W w5) (hT : Bk W tb T Z) (hz : Z.size = 9) (hle : wr.heap.size ≤ tb) (r5 : RF (VN V wr W) 6 valE w5 (.slice a n.vals.length c) n.vals) :
    AftT V wr (put w5 tb 0 (subC n (.slice a n.vals.length c)).toList) tb T n a c :=
  ⟨put_all (hT.ext x5) (by rw [hz]; rfl), (r5.agree (agree_put (V := VN V wr W) (.inr ⟨hle, hT.lt⟩) _ 0 _)).weak (by omega) (fun g _ hg => .inl hg), hle, put_ext hle _ 0 _ (hE.trans x5)⟩
theorem aftT_new (hE : Ext wr W) (x5 : Ext W w5) (r5 : RF (VN V wr W) 6 valE w5 (.slice a n.vals.length c) n.vals) :
    AftT V wr (w5.alloc (.cells (subC n (.slice a n.vals.length c)) T)) w5.heap.size T n a c :=
  ⟨Bk.new _ _ _ _ rfl, (r5.ext ((Ext.refl _).alloc _)).weak (by omega) (fun g _ hg => .inl hg), (hE.trans x5).size, (hE.trans x5).alloc _⟩
theorem vn_of_old (hE : Ext wr W) (hV : ∀ g, V g → g < wr.heap.size) (r5 : RF (Old W) 6 valE w5 (.slice a n.vals.length c) n.vals) : RF (VN V wr W) 6 valE w5 (.slice a n.vals.length c) n.vals :=
  r5.weak (by omega) (fun g _ hg => hg.elim (fun h => hE.lt (hV g h)) (fun h => h.2))
theorem vn_lt (hE : Ext wr W) (hV : ∀ g, V g → g < wr.heap.size) : ∀ g, VN V wr W g → g < W.heap.size := fun g hg => hg.elim (fun h => hE.lt (hV g h)) (fun h => h.2)
theorem vn_keep (hE : Ext wr W) {v : Value} {l : List Val} (r : RF V 6 valE wr v l) : RF (VN V wr W) 6 valE W v l :=
  (r.weak (by omega) (V' := VN V wr W) (fun g hg h => h.elim id (fun h => absurd h.1 (by omega)))).ext hE
end

set_option maxRecDepth 100000 in
set_option maxHeartbeats 16000000 in
theorem plays_walk (l : List Evt) (v : Value) (w : World) (hl : RF Any 6 evtE w v l) : Calls Try.prog 8 #[v] w fun e w' => e = .returned (.bool true) ∧ Ext w w' := by
  have HK := Lib.hid (fun w1 => known14_any w1)
  have HN := Lib.hid (fun w1 => newSub_any 3 4 w1)
  have HNR := Lib.hid (fun w1 => newSubR_any 3 4 w1)
  simp only [newSub] at HN HNR
  have HIN := Lib.hid (fun w1 (he : Ext w w1) => hl.ext he)
  obtain ⟨ia, ic, rfl, hi1, hi2⟩ := hl.form
  unfold maxLen at hi2
  clear hl
  generalize hln : l.length = ln at *
  have HLN := Lib.hid hln
  clear hln
  go_enter Try.func8, Try.ntmps8
  go_wp2_with fail
  refine (HK.out _).mono ?_
  rintro e w1 ⟨rfl, x1⟩
  go_wp2_with fail
  refine (HN.out _).mono ?_
  rintro e w2 ⟨rfl, x2⟩
  go_wp2_with fail
  refine (HNR.out _).mono ?_
  rintro e w3 ⟨rfl, x3⟩
  have X3 := Lib.hid ((x1.trans x2).trans x3)
  clear x1 x2 x3
  go_wp2_with fail
  have B3 := Lib.hid ((Bk.new w3 #[.int .i64 3, .int .i64 4, .bool false, .int .i64 0, .int .i64 0, .int .i64 0, .int .i64 0, .bool false, .slice none 0 0] 50 w3.heap.size rfl).alloc (.cells #[.int .i64 3, .int .i64 4, .bool false, .int .i64 0, .int .i64 0, .int .i64 0, .int .i64 0, .bool false, .slice none 0 0] 67))
  have Y3 := Lib.hid (Bk.new (w3.alloc (.cells #[.int .i64 3, .int .i64 4, .bool false, .int .i64 0, .int .i64 0, .int .i64 0, .int .i64 0, .bool false, .slice none 0 0] 50)) #[.int .i64 3, .int .i64 4, .bool false, .int .i64 0, .int .i64 0, .int .i64 0, .int .i64 0, .bool false, .slice none 0 0] 67 (w3.heap.size + 1) (by simp))
  have X4 := Lib.hid ((X3.out.alloc (.cells #[.int .i64 3, .int .i64 4, .bool false, .int .i64 0, .int .i64 0, .int .i64 0, .int .i64 0, .bool false, .slice none 0 0] 50)).alloc (.cells #[.int .i64 3, .int .i64 4, .bool false, .int .i64 0, .int .i64 0, .int .i64 0, .int .i64 0, .bool false, .slice none 0 0] 67))
  have hXB : w.heap.size ≤ w3.heap.size := X3.out.size
  generalize (w3.alloc (.cells #[.int .i64 3, .int .i64 4, .bool false, .int .i64 0, .int .i64 0, .int .i64 0, .int .i64 0, .bool false, .slice none 0 0] 50)).alloc (.cells #[.int .i64 3, .int .i64 4, .bool false, .int .i64 0, .int .i64 0, .int .i64 0, .int .i64 0, .bool false, .slice none 0 0] 67) = W at *
  obtain ⟨XB, hXBe⟩ : ∃ XB, w3.heap.size + 1 = XB := ⟨_, rfl⟩
  rw [hXBe] at Y3 ⊢
  generalize w3.heap.size = B at *
  have HBX := Lib.hid (show w.heap.size ≤ B ∧ w.heap.size ≤ XB ∧ B ≠ XB from ⟨hXB, by omega, by omega⟩)
  clear X3 HK HN HNR hXB hXBe
  go_loopw [5] (fun i wr => ∃ (k : Nat) (s : SSt) (a : Option Addr) (c : Nat) (a' : Option Addr) (c' : Nat), (k ≤ ln ∧ k ≤ 200) ∧ i = .int .i64 k ∧ Srel s ∧ PlayS w wr B XB s a c a' c') (fun i _ => 201 - (intOf i).toNat)
  case atStart => exact ⟨0, newSub 3 4, none, 0, none, 0, by omega, rfl, rel_new, B3.out, Y3.out, RF.nil _ _ _ _, RF.nil _ _ _ _, X4.out⟩
  case round =>
    obtain ⟨k, s, a0, c0, a1, c1, ⟨hk, hk2⟩, rfl, hJ, hBk, hXk, hR, hR', hx⟩ := hrel
    clear B3 Y3 X4
    by_cases hlt : k < ln ∧ k < 200
    · obtain ⟨hlt1, hlt2⟩ := hlt
      obtain ⟨x, hxk⟩ : ∃ x, l[k]? = some x := ⟨_, List.getElem?_eq_getElem (by rw [HLN.out]; exact hlt1)⟩
      obtain ⟨ib, io, ic', hv1, i0, i1, i2, i3, i4, i5⟩ := evt_get (HIN.out wr hx) hxk
      rw [HLN.out] at hv1
      simp only [Value.slice.injEq] at hv1
      obtain ⟨rfl, -, rfl⟩ := hv1
      clear hxk
      have hki : (k : Int) < ln := by omega
      have hki2 : (k : Int) < 200 := by omega
      have HX := Lib.hid hx
      have hvl : s.vals.length ≤ 1 := hJ.vl
      have lB0 := hBk.lt
      have lX0 := hXk.lt
      have lI0 : ib < wr.heap.size := World.block_lt_of_cell? wr _ i0
      cases htk : x.tick
      · have HE := Lib.hid (fun w1 => evMsg_any x w1)
        have HTk := Lib.hid (fun w1 v u h1 h2 => take_any s (evM x) v u w1 h1 h2 (by omega) (by have := hJ.o0; have := hJ.o1; omega))
        have HPV : Hid (∀ g, PV B XB g → g < wr.heap.size) := fun g hg => by rcases hg with rfl | rfl; exact lB0; exact lX0
        have hM := evM_ok x
        have hml : (evM x).vals.length = 1 := by omega
        have HT12 := Lib.hid (fun W u h => to12_any (evM x) u W h (by omega))
        have HTR : Hid (∀ (wx W : World) u, Ext wr wx → Ext wx W → RF Any 6 valE W u (evM x).vals → Calls Try.prog 36 #[subA s (.slice a1 s.vals.length c1), msgA (evM x) u] W (RetTV (VN (PV B XB) wx W) W (takeS s (evM x)))) := fun wx W u hx1 he h => by
          exact takeR_any s (evM x) _ u W (vn_keep he (hR'.ext hx1)) h (vn_lt he (fun g hg => hx1.lt (HPV.out g hg))) (by omega) ⟨hJ.o0, hJ.o1⟩ (fun hkn => by have := hJ.kn hkn; exact ⟨⟨by omega, by omega⟩, ⟨by omega, by omega⟩⟩) ⟨⟨by omega, by omega⟩, ⟨by omega, by omega⟩⟩ (by omega) hM.1 (by rw [hJ.pub]; rfl) (by rw [hJ.rev]; rfl)
        clear hM hml
        have hJ2 := (rel_take hJ x).1
        have HRA := Lib.hid (fun w' (he : Ext wr w') => (hR.ext he).weak (by omega) (V' := Any) (fun _ _ h => h.elim))
        rw [htk] at i5
        clear hR hR' hx hJ hvl
        have HJ := Lib.hid hJ2
        clear hJ2
        obtain ⟨z, hz⟩ : ∃ z, takeS s (evM x) = z := ⟨_, rfl⟩
        rw [hz] at HTk HTR HJ
        clear hz
        obtain ⟨t, kk⟩ := z
        generalize evM x = m at *
        obtain ⟨e1, e2, e3, e4, e5, e6⟩ := x
        obtain ⟨s1, s2, s3, s4, s5, s6, s7, s8, vs⟩ := s
        obtain ⟨t1, t2, t3, t4, t5, t6, t7, t8, vt⟩ := t
        obtain ⟨m1, m2, m3, m4, m5, m6, m7, m8, m9, vm⟩ := m
        simp only at *
        subst htk
        generalize hn : vs.length = n at *
        have HNS := Lib.hid hn
        generalize hnt : vt.length = nt at *
        have HNT := Lib.hid hnt
        generalize hnm : vm.length = nm at *
        have HNM := Lib.hid hnm
        clear hnt hnm hn
        have hne : ¬ B = XB := HBX.out.2.2
        have hne' : ¬ XB = B := fun e => HBX.out.2.2 e.symm
        have HBA : Hid (∀ w', Ext wr w' → Bk w' B 50 #[.int .i64 s1, .int .i64 s2, .bool s3, .int .i64 s4, .int .i64 s5, .int .i64 s6, .int .i64 s7, .bool s8, .slice a0 n c0]) := fun w' he => hBk.ext he
        have HXA : Hid (∀ w', Ext wr w' → Bk w' XB 67 #[.int .i64 s1, .int .i64 s2, .bool s3, .int .i64 s4, .int .i64 s5, .int .i64 s6, .int .i64 s7, .bool s8, .slice a1 n c1]) := fun w' he => hXk.ext he
        have HEV : Hid (∀ w', Ext wr w' → w'.cell? ⟨ib, io + k * 6, none⟩ = some (.int .i64 e1) ∧ w'.cell? ⟨ib, io + k * 6 + 1, none⟩ = some (.int .i64 e2) ∧ w'.cell? ⟨ib, io + k * 6 + 2, none⟩ = some (.int .i64 e3) ∧ w'.cell? ⟨ib, io + k * 6 + 3, none⟩ = some (.bool e4) ∧ w'.cell? ⟨ib, io + k * 6 + 4, none⟩ = some (.bool e5) ∧ w'.cell? ⟨ib, io + k * 6 + 5, none⟩ = some (.bool false)) := fun w' he => ⟨he.cell i0, he.cell i1, he.cell i2, he.cell i3, he.cell i4, he.cell i5⟩
        have HBC := Lib.hid (fun w' (he : Ext wr w') => And.intro (HBA.out w' he).cell (HEV.out w' he))
        have q0 : ∀ j, wr.cell? ⟨B, j, none⟩ = (#[.int .i64 s1, .int .i64 s2, .bool s3, .int .i64 s4, .int .i64 s5, .int .i64 s6, .int .i64 s7, .bool s8, .slice a0 n c0] : Array Value)[j]? := hBk.cell
        clear hBk hXk
        go_upto_region 9 with fail
        go_cut [6, 7] (fun t kq wx => ∃ (tb : Nat) (a5 : Option Addr) (c5 : Nat), t = .pointer (some ⟨tb, 0, none⟩) ∧ kq = .int .i64 kk ∧ AftT (PV B XB) wr wx tb 50 ⟨t1, t2, t3, t4, t5, t6, t7, t8, vt⟩ a5 c5)
        case first =>
          go_region_held3 (fun w' => (∀ j, w'.cell? ⟨B, j, none⟩ = (#[.int .i64 s1, .int .i64 s2, .bool s3, .int .i64 s4, .int .i64 s5, .int .i64 s6, .int .i64 s7, .bool s8, .slice a0 n c0] : Array Value)[j]?) ∧ w'.cell? ⟨ib, io + k * 6, none⟩ = some (.int .i64 e1) ∧ w'.cell? ⟨ib, io + k * 6 + 1, none⟩ = some (.int .i64 e2) ∧ w'.cell? ⟨ib, io + k * 6 + 2, none⟩ = some (.int .i64 e3) ∧ w'.cell? ⟨ib, io + k * 6 + 3, none⟩ = some (.bool e4) ∧ w'.cell? ⟨ib, io + k * 6 + 4, none⟩ = some (.bool e5) ∧ w'.cell? ⟨ib, io + k * 6 + 5, none⟩ = some (.bool false))
            (first | (with_reducible exact ⟨q0, i0, i1, i2, i3, i4, i5⟩) | (exact HBC.out _ (by first | (with_reducible exact (Ext.refl wr)) | (with_reducible exact (Ext.refl wr).drew) | (with_reducible exact ((Ext.refl wr).alloc _).drew) | (with_reducible exact (Ext.refl wr).drew.alloc _) | (with_reducible exact E4) | (with_reducible exact E4.alloc _) | (with_reducible exact E5) | (with_reducible exact E5.alloc _))) | (refine ⟨fun j => ?_, ?_, ?_, ?_, ?_, ?_, ?_⟩ <;> (repeat rw [World.cell?_setCell_other _ _ _ _ (by first | (simp; done) | (simp; omega))]) <;> first | (with_reducible exact (HBC.out _ E5).1 j) | (with_reducible exact (HBC.out _ E5).2.1) | (with_reducible exact (HBC.out _ E5).2.2.1) | (with_reducible exact (HBC.out _ E5).2.2.2.1) | (with_reducible exact (HBC.out _ E5).2.2.2.2.1) | (with_reducible exact (HBC.out _ E5).2.2.2.2.2.1) | (with_reducible exact (HBC.out _ E5).2.2.2.2.2.2)) | fail)
            (first
              | (go_at_call 35; (with_reducible refine (HE.out _).mono ?_); rintro e w4 ⟨a4, c4, he, x4, r4⟩; simp only [HNM.out] at he r4; subst he; have E4 : Ext wr w4 := Ext.trans (by first | (with_reducible exact (Ext.refl wr).drew) | (with_reducible exact ((Ext.refl wr).alloc _).drew) | (with_reducible exact (Ext.refl wr).drew.alloc _)) x4; (first | (with_reducible have Tw4 := Lib.hid ((Bk.new wr #[.int .i64 0, .int .i64 0, .bool false, .int .i64 0, .int .i64 0, .int .i64 0, .int .i64 0, .bool false, .slice none 0 0] 50 wr.heap.size rfl).drew.ext x4)) | (with_reducible have Tw4 := Lib.hid ((Bk.new wr.drew #[.int .i64 0, .int .i64 0, .bool false, .int .i64 0, .int .i64 0, .int .i64 0, .int .i64 0, .bool false, .slice none 0 0] 50 wr.heap.size rfl).ext x4)) | (have Tw4 := Lib.hid True.intro)); have lB4 : B < w4.heap.size := E4.lt lB0; have lE4 : ib < w4.heap.size := E4.lt lI0; have Ha4 := Lib.hid (fun w' (he : Ext w4 w') => (r4.ext he).weak (by omega) (V' := Any) (fun _ _ h => h.elim)); clear r4)
              | (go_at_call 25; (with_reducible refine (HTk.out _ _ _ (HRA.out _ (by first | (with_reducible exact E4) | (with_reducible exact E4.alloc _))) (Ha4.out _ (by first | (with_reducible exact Ext.refl w4) | (with_reducible exact (Ext.refl w4).alloc _)))).mono ?_); rintro e w5 ⟨a5, c5, he, x5, r5⟩; simp only [HNT.out] at he; subst he; have E5 := Ext.trans (by first | (with_reducible exact E4) | (with_reducible exact E4.alloc _)) x5; (first | (with_reducible have Tw5 := Lib.hid ((Bk.new w4 #[.int .i64 0, .int .i64 0, .bool false, .int .i64 0, .int .i64 0, .int .i64 0, .int .i64 0, .bool false, .slice none 0 0] 50 w4.heap.size rfl).ext x5)) | (with_reducible have Tw5 := Lib.hid (Tw4.out.ext x5)) | (have Tw5 := Lib.hid True.intro)); (try have tc5 := Tw5.out.cell); (try have tf5 := Tw5.out.frozen))
              | fail)
          all_goals
            first
              | (with_reducible have hA0 := aftT_put (V := PV B XB) (n := ⟨t1, t2, t3, t4, t5, t6, t7, t8, vt⟩) (E4.alloc _) x5 (Bk.new w4 #[.int .i64 0, .int .i64 0, .bool false, .int .i64 0, .int .i64 0, .int .i64 0, .int .i64 0, .bool false, .slice none 0 0] 50 w4.heap.size rfl) rfl (E4.size) (vn_of_old (E4.alloc _) HPV.out r5)
                 have hA : AftT (PV B XB) wr (put w5 w4.heap.size 0 [.int .i64 t1, .int .i64 t2, .bool t3, .int .i64 t4, .int .i64 t5, .int .i64 t6, .int .i64 t7, .bool t8, .slice a5 nt c5]) w4.heap.size 50 ⟨t1, t2, t3, t4, t5, t6, t7, t8, vt⟩ a5 c5 := by simpa only [HNT.out] using hA0
                 clear hA0
                 change Exit.then _ _ _ _ (put w5 w4.heap.size 0 [.int .i64 t1, .int .i64 t2, .bool t3, .int .i64 t4, .int .i64 t5, .int .i64 t6, .int .i64 t7, .bool t8, .slice a5 nt c5])
                 generalize put w5 w4.heap.size 0 [.int .i64 t1, .int .i64 t2, .bool t3, .int .i64 t4, .int .i64 t5, .int .i64 t6, .int .i64 t7, .bool t8, .slice a5 nt c5] = w9 at *
                 have HA := Lib.hid hA
                 clear hA
                 go_wp2_with fail
                 go_meet
                 exact ⟨w4.heap.size, a5, c5, rfl, rfl, HA.out⟩)
              | (with_reducible have hA0 := aftT_put (V := PV B XB) (n := ⟨t1, t2, t3, t4, t5, t6, t7, t8, vt⟩) (E4) x5 (show Bk w4 wr.heap.size 50 #[.int .i64 0, .int .i64 0, .bool false, .int .i64 0, .int .i64 0, .int .i64 0, .int .i64 0, .bool false, .slice none 0 0] from Tw4.out) rfl (Nat.le_refl _) (vn_of_old E4 HPV.out r5)
                 have hA : AftT (PV B XB) wr (put w5 wr.heap.size 0 [.int .i64 t1, .int .i64 t2, .bool t3, .int .i64 t4, .int .i64 t5, .int .i64 t6, .int .i64 t7, .bool t8, .slice a5 nt c5]) wr.heap.size 50 ⟨t1, t2, t3, t4, t5, t6, t7, t8, vt⟩ a5 c5 := by simpa only [HNT.out] using hA0
                 clear hA0
                 change Exit.then _ _ _ _ (put w5 wr.heap.size 0 [.int .i64 t1, .int .i64 t2, .bool t3, .int .i64 t4, .int .i64 t5, .int .i64 t6, .int .i64 t7, .bool t8, .slice a5 nt c5])
                 generalize put w5 wr.heap.size 0 [.int .i64 t1, .int .i64 t2, .bool t3, .int .i64 t4, .int .i64 t5, .int .i64 t6, .int .i64 t7, .bool t8, .slice a5 nt c5] = w9 at *
                 have HA := Lib.hid hA
                 clear hA
                 go_wp2_with fail
                 go_meet
                 exact ⟨wr.heap.size, a5, c5, rfl, rfl, HA.out⟩)
              | (have hA0 := aftT_new (V := PV B XB) (T := 50) (n := ⟨t1, t2, t3, t4, t5, t6, t7, t8, vt⟩) (E4) x5 (vn_of_old E4 HPV.out r5)
                 have hA : AftT (PV B XB) wr (w5.alloc (.cells #[.int .i64 t1, .int .i64 t2, .bool t3, .int .i64 t4, .int .i64 t5, .int .i64 t6, .int .i64 t7, .bool t8, .slice a5 nt c5] 50)) w5.heap.size 50 ⟨t1, t2, t3, t4, t5, t6, t7, t8, vt⟩ a5 c5 := by simpa only [HNT.out] using hA0
                 clear hA0
                 generalize w5.alloc (.cells #[.int .i64 t1, .int .i64 t2, .bool t3, .int .i64 t4, .int .i64 t5, .int .i64 t6, .int .i64 t7, .bool t8, .slice a5 nt c5] 50) = w9 at *
                 have HA := Lib.hid hA
                 clear hA
                 go_wp2_with fail
                 go_meet
                 exact ⟨w5.heap.size, a5, c5, rfl, rfl, HA.out⟩)
        case rest =>
          obtain ⟨tb, a2, c2, rfl, rfl, hT, hRT, htb, X9⟩ := hcut
          simp only [HNT.out] at hT hRT
          obtain ⟨wt, hwt⟩ : ∃ wt, wt = wc := ⟨_, rfl⟩
          subst hwt
          obtain ⟨i0, i1, i2, i3, i4, i5⟩ := HEV.out _ X9
          have HBC := Lib.hid (fun w' (he : Ext wt w') => And.intro (HXA.out w' (X9.trans he)).cell (HEV.out w' (X9.trans he)))
          have HTR := Lib.hid (fun (W : World) u he h => HTR.out wt W u X9 he h)
          have q0 : ∀ j, wt.cell? ⟨XB, j, none⟩ = (#[.int .i64 s1, .int .i64 s2, .bool s3, .int .i64 s4, .int .i64 s5, .int .i64 s6, .int .i64 s7, .bool s8, .slice a1 n c1] : Array Value)[j]? := (HXA.out _ X9).cell
          have lBt := X9.lt lB0
          have lXt := X9.lt lX0
          have lIt := X9.lt lI0
          have ltb := hT.lt
          have HTT := Lib.hid (And.intro hT (And.intro hRT X9))
          have HTB := Lib.hid htb
          have HLB := Lib.hid (And.intro lB0 lX0)
          clear lB0 lX0 lI0 hT hRT X9 htb
          have lB0 := lXt
          have lI0 := lIt
          go_upto_region 10 with fail
          go_cut [8, 9] (fun t kq wx => ∃ (tb : Nat) (a5 : Option Addr) (c5 : Nat), t = .pointer (some ⟨tb, 0, none⟩) ∧ kq = .int .i64 kk ∧ AftT (PV B XB) wt wx tb 67 ⟨t1, t2, t3, t4, t5, t6, t7, t8, vt⟩ a5 c5)
          case first =>
            go_region_held3 (fun w' => (∀ j, w'.cell? ⟨XB, j, none⟩ = (#[.int .i64 s1, .int .i64 s2, .bool s3, .int .i64 s4, .int .i64 s5, .int .i64 s6, .int .i64 s7, .bool s8, .slice a1 n c1] : Array Value)[j]?) ∧ w'.cell? ⟨ib, io + k * 6, none⟩ = some (.int .i64 e1) ∧ w'.cell? ⟨ib, io + k * 6 + 1, none⟩ = some (.int .i64 e2) ∧ w'.cell? ⟨ib, io + k * 6 + 2, none⟩ = some (.int .i64 e3) ∧ w'.cell? ⟨ib, io + k * 6 + 3, none⟩ = some (.bool e4) ∧ w'.cell? ⟨ib, io + k * 6 + 4, none⟩ = some (.bool e5) ∧ w'.cell? ⟨ib, io + k * 6 + 5, none⟩ = some (.bool false))
              (first | (with_reducible exact ⟨q0, i0, i1, i2, i3, i4, i5⟩) | (exact HBC.out _ (by first | (with_reducible exact (Ext.refl wt)) | (with_reducible exact (Ext.refl wt).drew) | (with_reducible exact ((Ext.refl wt).alloc _).drew) | (with_reducible exact (Ext.refl wt).drew.alloc _) | (with_reducible exact E4) | (with_reducible exact E4.alloc _) | (with_reducible exact E6) | (with_reducible exact E6.alloc _) | (with_reducible exact E5) | (with_reducible exact E5.alloc _))) | (refine ⟨fun j => ?_, ?_, ?_, ?_, ?_, ?_, ?_⟩ <;> (repeat rw [World.cell?_setCell_other _ _ _ _ (by first | (simp; done) | (simp; omega))]) <;> first | (with_reducible exact (HBC.out _ E5).1 j) | (with_reducible exact (HBC.out _ E5).2.1) | (with_reducible exact (HBC.out _ E5).2.2.1) | (with_reducible exact (HBC.out _ E5).2.2.2.1) | (with_reducible exact (HBC.out _ E5).2.2.2.2.1) | (with_reducible exact (HBC.out _ E5).2.2.2.2.2.1) | (with_reducible exact (HBC.out _ E5).2.2.2.2.2.2)) | fail)
              (first
                | (go_at_call 35; (with_reducible refine (HE.out _).mono ?_); rintro e w4 ⟨a4, c4, he, x4, r4⟩; simp only [HNM.out] at he r4; subst he; have E4 : Ext wt w4 := Ext.trans (by first | (with_reducible exact (Ext.refl wt).drew) | (with_reducible exact ((Ext.refl wt).alloc _).drew) | (with_reducible exact (Ext.refl wt).drew.alloc _)) x4; (first | (with_reducible have Tw4 := Lib.hid ((Bk.new wt #[.int .i64 0, .int .i64 0, .bool false, .int .i64 0, .int .i64 0, .int .i64 0, .int .i64 0, .bool false, .slice none 0 0] 67 wt.heap.size rfl).drew.ext x4)) | (with_reducible have Tw4 := Lib.hid ((Bk.new wt.drew #[.int .i64 0, .int .i64 0, .bool false, .int .i64 0, .int .i64 0, .int .i64 0, .int .i64 0, .bool false, .slice none 0 0] 67 wt.heap.size rfl).ext x4)) | (have Tw4 := Lib.hid True.intro)); have lB4 : XB < w4.heap.size := E4.lt lB0; have lE4 : ib < w4.heap.size := E4.lt lI0; have Ha4 := Lib.hid (fun w' (he : Ext w4 w') => (r4.ext he).weak (by omega) (V' := Any) (fun _ _ h => h.elim)); clear r4)
                | (go_at_call 27; (with_reducible refine (HT12.out _ _ (Ha4.out _ (by first | (with_reducible exact Ext.refl w4) | (with_reducible exact (Ext.refl w4).alloc _)))).mono ?_); rintro e w6 ⟨a6, c6, he, x6, r6⟩; simp only [HNM.out] at he r6; subst he; have E6 := Ext.trans (by first | (with_reducible exact E4) | (with_reducible exact E4.alloc _)) x6; (first | (with_reducible have Tw6 := Lib.hid ((Bk.new w4 #[.int .i64 0, .int .i64 0, .bool false, .int .i64 0, .int .i64 0, .int .i64 0, .int .i64 0, .bool false, .slice none 0 0] 67 w4.heap.size rfl).ext x6)) | (with_reducible have Tw6 := Lib.hid (Tw4.out.ext x6)) | (have Tw6 := Lib.hid True.intro)); have lB6 : XB < w6.heap.size := E6.lt lB0; have lE6 : ib < w6.heap.size := E6.lt lI0; have Ha6 := Lib.hid (fun w' (he : Ext w6 w') => (r6.ext he).weak (by omega) (V' := Any) (fun _ _ h => h.elim)); clear r6)
                | (go_at_call 36; (with_reducible refine (HTR.out _ _ (by first | (with_reducible exact E6) | (with_reducible exact E6.alloc _)) (Ha6.out _ (by first | (with_reducible exact Ext.refl w6) | (with_reducible exact (Ext.refl w6).alloc _)))).mono ?_); rintro e w5 ⟨a5, c5, he, x5, r5⟩; simp only [HNT.out] at he; subst he; have E5 := Ext.trans (by first | (with_reducible exact E6) | (with_reducible exact E6.alloc _)) x5; (first | (with_reducible have Tw5 := Lib.hid ((Bk.new w6 #[.int .i64 0, .int .i64 0, .bool false, .int .i64 0, .int .i64 0, .int .i64 0, .int .i64 0, .bool false, .slice none 0 0] 67 w6.heap.size rfl).ext x5)) | (with_reducible have Tw5 := Lib.hid (Tw6.out.ext x5)) | (have Tw5 := Lib.hid True.intro)); (try have tc5 := Tw5.out.cell); (try have tf5 := Tw5.out.frozen))
                | fail)
            all_goals
              first
                | (with_reducible have hA0 := aftT_put (V := PV B XB) (n := ⟨t1, t2, t3, t4, t5, t6, t7, t8, vt⟩) (E6.alloc _) x5 (Bk.new w6 #[.int .i64 0, .int .i64 0, .bool false, .int .i64 0, .int .i64 0, .int .i64 0, .int .i64 0, .bool false, .slice none 0 0] 67 w6.heap.size rfl) rfl (E6.size) (r5)
                   have hA : AftT (PV B XB) wt (put w5 w6.heap.size 0 [.int .i64 t1, .int .i64 t2, .bool t3, .int .i64 t4, .int .i64 t5, .int .i64 t6, .int .i64 t7, .bool t8, .slice a5 nt c5]) w6.heap.size 67 ⟨t1, t2, t3, t4, t5, t6, t7, t8, vt⟩ a5 c5 := by simpa only [HNT.out] using hA0
                   clear hA0
                   change Exit.then _ _ _ _ (put w5 w6.heap.size 0 [.int .i64 t1, .int .i64 t2, .bool t3, .int .i64 t4, .int .i64 t5, .int .i64 t6, .int .i64 t7, .bool t8, .slice a5 nt c5])
                   generalize put w5 w6.heap.size 0 [.int .i64 t1, .int .i64 t2, .bool t3, .int .i64 t4, .int .i64 t5, .int .i64 t6, .int .i64 t7, .bool t8, .slice a5 nt c5] = w9 at *
                   have HA := Lib.hid hA
                   clear hA
                   go_wp2_with fail
                   go_meet
                   exact ⟨w6.heap.size, a5, c5, rfl, rfl, HA.out⟩)
                | (with_reducible have hA0 := aftT_put (V := PV B XB) (n := ⟨t1, t2, t3, t4, t5, t6, t7, t8, vt⟩) (E6) x5 (show Bk w6 w4.heap.size 67 #[.int .i64 0, .int .i64 0, .bool false, .int .i64 0, .int .i64 0, .int .i64 0, .int .i64 0, .bool false, .slice none 0 0] from Tw6.out) rfl (E4.size) (r5)
                   have hA : AftT (PV B XB) wt (put w5 w4.heap.size 0 [.int .i64 t1, .int .i64 t2, .bool t3, .int .i64 t4, .int .i64 t5, .int .i64 t6, .int .i64 t7, .bool t8, .slice a5 nt c5]) w4.heap.size 67 ⟨t1, t2, t3, t4, t5, t6, t7, t8, vt⟩ a5 c5 := by simpa only [HNT.out] using hA0
                   clear hA0
                   change Exit.then _ _ _ _ (put w5 w4.heap.size 0 [.int .i64 t1, .int .i64 t2, .bool t3, .int .i64 t4, .int .i64 t5, .int .i64 t6, .int .i64 t7, .bool t8, .slice a5 nt c5])
                   generalize put w5 w4.heap.size 0 [.int .i64 t1, .int .i64 t2, .bool t3, .int .i64 t4, .int .i64 t5, .int .i64 t6, .int .i64 t7, .bool t8, .slice a5 nt c5] = w9 at *
                   have HA := Lib.hid hA
                   clear hA
                   go_wp2_with fail
                   go_meet
                   exact ⟨w4.heap.size, a5, c5, rfl, rfl, HA.out⟩)
                | (with_reducible have hA0 := aftT_put (V := PV B XB) (n := ⟨t1, t2, t3, t4, t5, t6, t7, t8, vt⟩) (E6) x5 (show Bk w6 wt.heap.size 67 #[.int .i64 0, .int .i64 0, .bool false, .int .i64 0, .int .i64 0, .int .i64 0, .int .i64 0, .bool false, .slice none 0 0] from Tw6.out) rfl (Nat.le_refl _) (r5)
                   have hA : AftT (PV B XB) wt (put w5 wt.heap.size 0 [.int .i64 t1, .int .i64 t2, .bool t3, .int .i64 t4, .int .i64 t5, .int .i64 t6, .int .i64 t7, .bool t8, .slice a5 nt c5]) wt.heap.size 67 ⟨t1, t2, t3, t4, t5, t6, t7, t8, vt⟩ a5 c5 := by simpa only [HNT.out] using hA0
                   clear hA0
                   change Exit.then _ _ _ _ (put w5 wt.heap.size 0 [.int .i64 t1, .int .i64 t2, .bool t3, .int .i64 t4, .int .i64 t5, .int .i64 t6, .int .i64 t7, .bool t8, .slice a5 nt c5])
                   generalize put w5 wt.heap.size 0 [.int .i64 t1, .int .i64 t2, .bool t3, .int .i64 t4, .int .i64 t5, .int .i64 t6, .int .i64 t7, .bool t8, .slice a5 nt c5] = w9 at *
                   have HA := Lib.hid hA
                   clear hA
                   go_wp2_with fail
                   go_meet
                   exact ⟨wt.heap.size, a5, c5, rfl, rfl, HA.out⟩)
                | (have hA0 := aftT_new (V := PV B XB) (T := 67) (n := ⟨t1, t2, t3, t4, t5, t6, t7, t8, vt⟩) (E6) x5 (r5)
                   have hA : AftT (PV B XB) wt (w5.alloc (.cells #[.int .i64 t1, .int .i64 t2, .bool t3, .int .i64 t4, .int .i64 t5, .int .i64 t6, .int .i64 t7, .bool t8, .slice a5 nt c5] 67)) w5.heap.size 67 ⟨t1, t2, t3, t4, t5, t6, t7, t8, vt⟩ a5 c5 := by simpa only [HNT.out] using hA0
                   clear hA0
                   generalize w5.alloc (.cells #[.int .i64 t1, .int .i64 t2, .bool t3, .int .i64 t4, .int .i64 t5, .int .i64 t6, .int .i64 t7, .bool t8, .slice a5 nt c5] 67) = w9 at *
                   have HA := Lib.hid hA
                   clear hA
                   go_wp2_with fail
                   go_meet
                   exact ⟨w5.heap.size, a5, c5, rfl, rfl, HA.out⟩)
          case rest =>
            obtain ⟨yb, a3, c3, rfl, rfl, hY, hRY, hyb, X10⟩ := hcut
            simp only [HNT.out] at hY hRY
            obtain ⟨wy, hwy⟩ : ∃ wy, wy = wc := ⟨_, rfl⟩
            subst hwy
            obtain ⟨hT, hRT, X9⟩ := HTT.out
            have BT := Lib.hid (hT.ext X10)
            have BY := Lib.hid hY
            have XX := X9.trans X10
            have RT := Lib.hid (hRT.ext X10)
            have RY := Lib.hid hRY
            have BBy := Lib.hid (HBA.out _ XX)
            have BXy := Lib.hid (HXA.out _ XX)
            have HXX := Lib.hid (HX.out.trans XX)
            clear i0 i1 i2 i3 i4 i5 q0 lB0 lI0 hT hRT hY hRY X10 XX X9
            have qt : ∀ j, wy.cell? ⟨tb, j, none⟩ = (#[.int .i64 t1, .int .i64 t2, .bool t3, .int .i64 t4, .int .i64 t5, .int .i64 t6, .int .i64 t7, .bool t8, .slice a2 nt c2] : Array Value)[j]? := BT.out.cell
            have qy : ∀ j, wy.cell? ⟨yb, j, none⟩ = (#[.int .i64 t1, .int .i64 t2, .bool t3, .int .i64 t4, .int .i64 t5, .int .i64 t6, .int .i64 t7, .bool t8, .slice a3 nt c3] : Array Value)[j]? := BY.out.cell
            have qB : ∀ j, wy.cell? ⟨B, j, none⟩ = (#[.int .i64 s1, .int .i64 s2, .bool s3, .int .i64 s4, .int .i64 s5, .int .i64 s6, .int .i64 s7, .bool s8, .slice a0 n c0] : Array Value)[j]? := BBy.out.cell
            have qX : ∀ j, wy.cell? ⟨XB, j, none⟩ = (#[.int .i64 s1, .int .i64 s2, .bool s3, .int .i64 s4, .int .i64 s5, .int .i64 s6, .int .i64 s7, .bool s8, .slice a1 n c1] : Array Value)[j]? := BXy.out.cell
            have fB := BBy.out.frozen
            have fX := BXy.out.frozen
            go_upto_region 13 with fail
            go_cut [57] (fun _ wx => ∃ (a2 : Option Addr) (c2 : Nat) (a3 : Option Addr) (c3 : Nat), PlayS w wx B XB ⟨t1, t2, t3, t4, t5, t6, t7, t8, vt⟩ a2 c2 a3 c3)
            case first =>
              go_region
              all_goals
                obtain ⟨w9, hW9⟩ : ∃ w9, (put (put wy B 0 [.int .i64 t1, .int .i64 t2, .bool t3, .int .i64 t4, .int .i64 t5, .int .i64 t6, .int .i64 t7, .bool t8, .slice a2 nt c2]) XB 0 [.int .i64 t1, .int .i64 t2, .bool t3, .int .i64 t4, .int .i64 t5, .int .i64 t6, .int .i64 t7, .bool t8, .slice a3 nt c3]).drew = w9 := ⟨_, rfl⟩
                have hW8 := hW9
                simp only [put, Nat.reduceAdd] at hW8
                rw [hW8]
                clear hW8
                have PS := playS_put (w := w) (t := ⟨t1, t2, t3, t4, t5, t6, t7, t8, vt⟩) HBX.out.1 HBX.out.2.1 HBX.out.2.2 BBy.out rfl BXy.out rfl HXX.out (show RF (PV B XB) 6 valE wy (.slice a2 vt.length c2) vt by rw [HNT.out]; exact RT.out) (show RF (PV B XB) 6 valE wy (.slice a3 vt.length c3) vt by rw [HNT.out]; exact RY.out)
                have PS2 : PlayS w (put (put wy B 0 [.int .i64 t1, .int .i64 t2, .bool t3, .int .i64 t4, .int .i64 t5, .int .i64 t6, .int .i64 t7, .bool t8, .slice a2 nt c2]) XB 0 [.int .i64 t1, .int .i64 t2, .bool t3, .int .i64 t4, .int .i64 t5, .int .i64 t6, .int .i64 t7, .bool t8, .slice a3 nt c3]) B XB ⟨t1, t2, t3, t4, t5, t6, t7, t8, vt⟩ a2 c2 a3 c3 := by simpa only [HNT.out] using PS
                replace PS2 := playS_drew PS2
                rw [hW9] at PS2
                clear hW9 PS qt qy qB qX fB fX
                go_wp2_with fail
                go_meet
                exact ⟨a2, c2, a3, c3, PS2⟩
            case rest =>
              clear qt qy qB qX fB fX HBC HTR
              obtain ⟨a2, c2, a3, c3, P1, P2, P3, P4, P5⟩ := hcut
              simp only [HNT.out] at P1 P2 P3 P4
              have Q := Lib.hid (And.intro P1 (And.intro P2 (And.intro P3 (And.intro P4 P5))))
              have HTO := Lib.hid (fun w1 (he : Ext wc w1) => by have := to14_any ⟨t1, t2, t3, t4, t5, t6, t7, t8, vt⟩ (.slice a2 nt c2) w1 (P3.ext he) (show vt.length ≤ 1000000 by have := HJ.out.vl; simp only at this; omega); exact this)
              have HSE := Lib.hid (fun w1 u (he : Ext wc w1) h => by have := sameR14_eq ⟨t1, t2, t3, t4, t5, t6, t7, t8, vt⟩ u (.slice a3 nt c3) w1 h ((P4.ext he).weak (by omega) (V' := Any) (fun _ _ h => h.elim)); exact this)
              have q0 : ∀ j, wc.cell? ⟨B, j, none⟩ = (#[.int .i64 t1, .int .i64 t2, .bool t3, .int .i64 t4, .int .i64 t5, .int .i64 t6, .int .i64 t7, .bool t8, .slice a2 nt c2] : Array Value)[j]? := P1.cell
              have qx : ∀ j, wc.cell? ⟨XB, j, none⟩ = (#[.int .i64 t1, .int .i64 t2, .bool t3, .int .i64 t4, .int .i64 t5, .int .i64 t6, .int .i64 t7, .bool t8, .slice a3 nt c3] : Array Value)[j]? := P2.cell
              have HBC := Lib.hid (fun w' (he : Ext wc w') => And.intro (P1.ext he).cell (P2.ext he).cell)
              clear P1 P2 P3 P4 P5
              go_upto_region 14 with fail
              go_cut [63] (fun b wx => b = .bool false ∧ Ext wc wx)
              case first =>
                go_region_held3 (fun w' => (∀ j, w'.cell? ⟨B, j, none⟩ = (#[.int .i64 t1, .int .i64 t2, .bool t3, .int .i64 t4, .int .i64 t5, .int .i64 t6, .int .i64 t7, .bool t8, .slice a2 nt c2] : Array Value)[j]?) ∧ (∀ j, w'.cell? ⟨XB, j, none⟩ = (#[.int .i64 t1, .int .i64 t2, .bool t3, .int .i64 t4, .int .i64 t5, .int .i64 t6, .int .i64 t7, .bool t8, .slice a3 nt c3] : Array Value)[j]?))
                  (first | (with_reducible exact ⟨q0, qx⟩) | (exact HBC.out _ (by first | (with_reducible exact (Ext.refl wc).drew) | (with_reducible exact E4) | (with_reducible exact E5))) | fail)
                  (first
                    | (go_at_call 38; (with_reducible refine (HTO.out _ (Ext.refl wc).drew).mono ?_); rintro e w4 ⟨a4, c4, he, x4, r4⟩; simp only [HNT.out] at he r4; subst he; have E4 : Ext wc w4 := (Ext.refl wc).drew.trans x4; have R4 := Lib.hid r4; clear r4)
                    | (go_at_call 37; (refine (HSE.out _ _ E4 (R4.out.weak (by omega) (V' := Any) (fun _ _ h => h.elim))).mono ?_); rintro e w5 ⟨rfl, x5⟩; have E5 : Ext wc w5 := E4.trans x5)
                    | fail)
                all_goals
                  go_wp2_with fail
                  go_meet
                  exact ⟨rfl, E5⟩
              case rest =>
                obtain ⟨rfl, hx5⟩ := hcut
                clear q0 qx
                go_wp2_with fail
                go_roundw
                case rel =>
                  obtain ⟨P1, P2, P3, P4, P5⟩ := Q.out
                  refine ⟨k + 1, ⟨t1, t2, t3, t4, t5, t6, t7, t8, vt⟩, a2, c2, a3, c3, by omega, by go_num, HJ.out, ?_⟩
                  unfold PlayS
                  simp only [HNT.out]
                  exact ⟨P1.ext hx5, P2.ext hx5, P3.ext hx5, P4.ext hx5, P5.trans hx5⟩
                case measure => simp [intOf] <;> omega
      · have HT := Lib.hid (fun w1 (he : Ext wr w1) => tick_any s _ w1 (hR.ext he) (by omega) (by have := hJ.l1; omega))
        have HTR := Lib.hid (fun w1 => tickR_any s a1 s.vals.length c1 w1 (by have := hJ.l1; omega))
        have HRX := Lib.hid (fun w1 (he : Ext wr w1) => hR'.ext he)
        have HVE : Hid ((tickS s).vals = s.vals) := by unfold tickS; split <;> rfl
        have HJ := Lib.hid (rel_tick hJ)
        rw [htk] at i5
        clear hR hR' hx hJ hvl i0 i1 i2 i3 i4
        generalize tickS s = t at *
        obtain ⟨s1, s2, s3, s4, s5, s6, s7, s8, vs⟩ := s
        obtain ⟨t1, t2, t3, t4, t5, t6, t7, t8, vt⟩ := t
        simp only at *
        obtain rfl : vt = vs := HVE.out
        clear HVE
        generalize hnt : vt.length = nt at *
        have HNT := Lib.hid hnt
        clear hnt
        have HBA : Hid (∀ w', Ext wr w' → Bk w' B 50 #[.int .i64 s1, .int .i64 s2, .bool s3, .int .i64 s4, .int .i64 s5, .int .i64 s6, .int .i64 s7, .bool s8, .slice a0 nt c0]) := fun w' he => hBk.ext he
        have HXA : Hid (∀ w', Ext wr w' → Bk w' XB 67 #[.int .i64 s1, .int .i64 s2, .bool s3, .int .i64 s4, .int .i64 s5, .int .i64 s6, .int .i64 s7, .bool s8, .slice a1 nt c1]) := fun w' he => hXk.ext he
        have q0 : ∀ j, wr.cell? ⟨B, j, none⟩ = (#[.int .i64 s1, .int .i64 s2, .bool s3, .int .i64 s4, .int .i64 s5, .int .i64 s6, .int .i64 s7, .bool s8, .slice a0 nt c0] : Array Value)[j]? := hBk.cell
        have qx : ∀ j, wr.cell? ⟨XB, j, none⟩ = (#[.int .i64 s1, .int .i64 s2, .bool s3, .int .i64 s4, .int .i64 s5, .int .i64 s6, .int .i64 s7, .bool s8, .slice a1 nt c1] : Array Value)[j]? := hXk.cell
        clear hBk hXk
        have hne : ¬ B = XB := HBX.out.2.2
        have hne' : ¬ XB = B := fun e => HBX.out.2.2 e.symm
        go_upto_region 8 with fail
        go_cut [29] (fun _ wx => ∃ (a2 : Option Addr) (c2 : Nat) (a3 : Option Addr) (c3 : Nat), PlayS w wx B XB ⟨t1, t2, t3, t4, t5, t6, t7, t8, vt⟩ a2 c2 a3 c3)
        case first =>
          go_region_with (first
            | (go_at_call 33; (with_reducible refine (HT.out _ (Ext.refl wr).drew).mono ?_); rintro e w2 ⟨a2, c2, he, x2, r2⟩; simp only [HNT.out] at he r2; subst he; have E2 : Ext wr w2 := (Ext.refl wr).drew.trans x2; have qx2 := (HXA.out _ E2).cell; have R2 := Lib.hid r2; clear r2)
            | (go_at_call 34; (with_reducible refine (HTR.out _).mono ?_); rintro e w3 ⟨he, x3⟩; subst he; have E3 : Ext wr w3 := E2.trans x3; have B3 := Lib.hid (HBA.out _ E3); have Y3 := Lib.hid (HXA.out _ E3); have R3 := Lib.hid (R2.out.ext x3); have q3 := B3.out.cell; have f3 := B3.out.frozen; have q4 := Y3.out.cell; have f4 := Y3.out.frozen))
          all_goals
            obtain ⟨w9, hW9⟩ : ∃ w9, put (put w3 B 0 [.int .i64 t1, .int .i64 t2, .bool t3, .int .i64 t4, .int .i64 t5, .int .i64 t6, .int .i64 t7, .bool t8, .slice a2 nt c2]) XB 0 [.int .i64 t1, .int .i64 t2, .bool t3, .int .i64 t4, .int .i64 t5, .int .i64 t6, .int .i64 t7, .bool t8, .slice a1 nt c1] = w9 := ⟨_, rfl⟩
            have hW8 := hW9
            simp only [put, Nat.reduceAdd] at hW8
            rw [hW8]
            clear hW8
            have PS := playS_put (w := w) (t := ⟨t1, t2, t3, t4, t5, t6, t7, t8, vt⟩) HBX.out.1 HBX.out.2.1 HBX.out.2.2 B3.out rfl Y3.out rfl (HX.out.trans E3) (show RF (PV B XB) 6 valE w3 (.slice a2 vt.length c2) vt by rw [HNT.out]; exact R3.out.weak (by omega) (fun g _ hg => by rcases hg with rfl | rfl; exact lB0; exact lX0)) (show RF (PV B XB) 6 valE w3 (.slice a1 vt.length c1) vt by rw [HNT.out]; exact HRX.out _ E3)
            have PS2 : PlayS w (put (put w3 B 0 [.int .i64 t1, .int .i64 t2, .bool t3, .int .i64 t4, .int .i64 t5, .int .i64 t6, .int .i64 t7, .bool t8, .slice a2 nt c2]) XB 0 [.int .i64 t1, .int .i64 t2, .bool t3, .int .i64 t4, .int .i64 t5, .int .i64 t6, .int .i64 t7, .bool t8, .slice a1 nt c1]) B XB ⟨t1, t2, t3, t4, t5, t6, t7, t8, vt⟩ a2 c2 a1 c1 := by simpa only [HNT.out] using PS
            rw [hW9] at PS2
            clear hW9 PS q0 qx q3 f3 q4 f4
            go_wp2_with fail
            go_meet
            exact ⟨a2, c2, a1, c1, PS2⟩
        case rest =>
          obtain ⟨a2, c2, a3, c3, P1, P2, P3, P4, P5⟩ := hcut
          simp only [HNT.out] at P1 P2 P3 P4
          have Q := Lib.hid (And.intro P1 (And.intro P2 (And.intro P3 (And.intro P4 P5))))
          have HTO := Lib.hid (fun w1 (he : Ext wc w1) => by have := to14_any ⟨t1, t2, t3, t4, t5, t6, t7, t8, vt⟩ (.slice a2 nt c2) w1 (P3.ext he) (show vt.length ≤ 1000000 by have := HJ.out.vl; simp only at this; omega); exact this)
          have HSE := Lib.hid (fun w1 u (he : Ext wc w1) h => by have := sameR14_eq ⟨t1, t2, t3, t4, t5, t6, t7, t8, vt⟩ u (.slice a3 nt c3) w1 h ((P4.ext he).weak (by omega) (V' := Any) (fun _ _ h => h.elim)); exact this)
          have q0 : ∀ j, wc.cell? ⟨B, j, none⟩ = (#[.int .i64 t1, .int .i64 t2, .bool t3, .int .i64 t4, .int .i64 t5, .int .i64 t6, .int .i64 t7, .bool t8, .slice a2 nt c2] : Array Value)[j]? := P1.cell
          have qx : ∀ j, wc.cell? ⟨XB, j, none⟩ = (#[.int .i64 t1, .int .i64 t2, .bool t3, .int .i64 t4, .int .i64 t5, .int .i64 t6, .int .i64 t7, .bool t8, .slice a3 nt c3] : Array Value)[j]? := P2.cell
          have HBC := Lib.hid (fun w' (he : Ext wc w') => And.intro (P1.ext he).cell (P2.ext he).cell)
          clear P1 P2 P3 P4 P5
          go_upto_region 14 with fail
          go_cut [63] (fun b wx => b = .bool false ∧ Ext wc wx)
          case first =>
            go_region_held3 (fun w' => (∀ j, w'.cell? ⟨B, j, none⟩ = (#[.int .i64 t1, .int .i64 t2, .bool t3, .int .i64 t4, .int .i64 t5, .int .i64 t6, .int .i64 t7, .bool t8, .slice a2 nt c2] : Array Value)[j]?) ∧ (∀ j, w'.cell? ⟨XB, j, none⟩ = (#[.int .i64 t1, .int .i64 t2, .bool t3, .int .i64 t4, .int .i64 t5, .int .i64 t6, .int .i64 t7, .bool t8, .slice a3 nt c3] : Array Value)[j]?))
              (first | (with_reducible exact ⟨q0, qx⟩) | (exact HBC.out _ (by first | (with_reducible exact (Ext.refl wc).drew) | (with_reducible exact E4) | (with_reducible exact E5))) | fail)
              (first
                | (go_at_call 38; (with_reducible refine (HTO.out _ (Ext.refl wc).drew).mono ?_); rintro e w4 ⟨a4, c4, he, x4, r4⟩; simp only [HNT.out] at he r4; subst he; have E4 : Ext wc w4 := (Ext.refl wc).drew.trans x4; have R4 := Lib.hid r4; clear r4)
                | (go_at_call 37; (refine (HSE.out _ _ E4 (R4.out.weak (by omega) (V' := Any) (fun _ _ h => h.elim))).mono ?_); rintro e w5 ⟨rfl, x5⟩; have E5 : Ext wc w5 := E4.trans x5)
                | fail)
            all_goals
              go_wp2_with fail
              go_meet
              exact ⟨rfl, E5⟩
          case rest =>
            obtain ⟨rfl, hx5⟩ := hcut
            clear q0 qx
            go_wp2_with fail
            go_roundw
            case rel =>
              obtain ⟨P1, P2, P3, P4, P5⟩ := Q.out
              refine ⟨k + 1, ⟨t1, t2, t3, t4, t5, t6, t7, t8, vt⟩, a2, c2, a3, c3, by omega, by go_num, HJ.out, ?_⟩
              unfold PlayS
              simp only [HNT.out]
              exact ⟨P1.ext hx5, P2.ext hx5, P3.ext hx5, P4.ext hx5, P5.trans hx5⟩
            case measure => simp [intOf] <;> omega
    · have hend : ¬ ((k : Int) < ln) ∨ (((k : Int) < ln) ∧ ¬ ((k : Int) < 200)) := by omega
      clear hlt
      rcases hend with hd | ⟨hd, hd'⟩
      all_goals
        go_wp2_with fail
        go_ret
        exact ⟨rfl, hx⟩
end Go.Proofs.Ytopmhaebjpmbfaa
